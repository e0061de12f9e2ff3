/- Plain: the state behind a crossing: its ends, its pairing, its circles. -/
import Derived.Test.YtphjphpmfflfpaaGreatDoorZj
namespace Go.Proofs.YtphjphpmfflfpaaGreatDoor
set_option linter.unusedVariables false
set_option linter.unusedSimpArgs false
set_option linter.unusedSectionVars false
theorem Oz (hs m:List Int) (j:Nat): ∀d,∃r,aO hs m (j+d)=aO hs m j++r
 |0=>⟨[],by simp⟩
 |d+1=>by
  obtain ⟨r,h⟩:=Oz hs m j d;rw [←Nat.add_assoc];simp only [aO]
  split
  ·exact ⟨r,h⟩
  ·exact ⟨r++[hs.getD (j+d) 0],by rw [h,List.append_assoc]⟩
theorem qw {hs m:List Int} {x k:Nat} (hx:x<k) (h:eG hs m x=none):(aO hs m x).length<(aO hs m k).length/\(aO hs m k).getD (aO hs m x).length 0=hs.getD x 0:=by
 obtain ⟨d,rfl⟩: ∃d,k=x+1+d:=⟨k-x-1,by omega⟩;obtain ⟨r,e⟩:=Oz hs m (x+1) d;have e1:aO hs m (x+1)=aO hs m x++[hs.getD x 0]:=by simp only [aO];rw [h];rfl
 rw [e,e1];refine ⟨by simp only [List.length_append,List.length_cons,List.length_nil];omega,?_⟩;simp [List.getD_eq_getElem?_getD]
theorem tI {hs m:List Int}: ∀(k j:Nat),j<(aO hs m k).length-> ∃x,x<k/\eG hs m x=none/\(aO hs m x).length=j
 |0,j,h=>by simp [aO] at h
 |k+1,j,h=>by
  simp only [aO] at h
  split at h
  ·obtain ⟨x,h1,h2⟩:=tI k j h;exact ⟨x,by omega,h2⟩
  ·rename_i hg
   by_cases hj:j<(aO hs m k).length
   ·obtain ⟨x,h1,h2⟩:=tI k j hj;exact ⟨x,by omega,h2⟩
   ·refine ⟨k,by omega,by simpa using hg,?_⟩;simp only [List.length_append,List.length_cons,List.length_nil] at h;omega
theorem Hz {hs m:List Int} {x y:Nat} (hx:eG hs m x=none) (hy:eG hs m y=none) (h:(aO hs m x).length=(aO hs m y).length):x=y:=by
 rcases Nat.lt_trichotomy x y with h1|h1|h1
 ·have:=(qw h1 hx).1;omega
 ·exact h1
 ·have:=(qw h1 hy).1;omega
theorem Oy {hs m:List Int} {l:List Bool}: ∀k,k<=l.length->(∀x,x<k->(l.getD x false=true↔eG hs m x≠none))->(aO hs m k).length+(l.take k).count true=k
 |0,_,_=>by simp [aO]
 |k+1,hk,h=>by
  have ih:=Oy (l:=l) k (by omega) fun x hx=>h x (by omega);have bJ:k<l.length:=by omega
  have h1:=h k (by omega);rw [List.take_add_one,List.getElem?_eq_getElem bJ,List.count_append];simp only [List.getD_eq_getElem?_getD,List.getElem?_eq_getElem bJ,Option.getD_some] at h1;simp only [aO];cases hq:eG hs m k with
  |none=>
   rw [hq] at h1
   have:l[k]=false:=by cases h2:l[k] with
    |false=>rfl
    |true=>exact absurd rfl (h1.1 h2)
   simp [this];omega
  |some y=>
   rw [hq] at h1
   have:l[k]=true:=h1.2 (by simp)
   simp [this];omega
theorem VC {l:List Int} (h: ∀i j,i<l.length->j<l.length->l.getD i 0=l.getD j 0->i=j):l.Nodup:=by
 unfold List.Nodup;rw [List.pairwise_iff_getElem];intro i j hi hj fC e
 have:=h i j hi hj (by simp [List.getD_eq_getElem?_getD,hi,hj,e])
 omega
theorem Ox {n:Nat} {mt b b':Int->Int} (hi:Inv2 n mt b) (h: ∀x,ax n x->b x=b' x) {x y:Int} (hx:ax n x) (hc:aL mt b x y):aL mt b' x y:=by
 induction hc with
 |refl=>exact .refl _
 |aJ _ ih=>exact .aJ ih
 | @join y hc ih=>rw [h y (hc.bP hi hx)];exact .join ih
theorem WQ {n:Nat} {mt b b':Int->Int} (hi:Inv2 n mt b) (jv:Inv2 n mt b') (h: ∀x,ax n x->b x=b' x):mR n mt b=mR n mt b':=by
 have h1:=v8 jv;exact Ev (v8 hi) ⟨h1.rep,fun x y hx hy=>(h1.iff x y hx hy).trans ⟨Ox jv (fun z hz=>(h z hz).symm) (by unfold ax;omega),Ox hi h (by unfold ax;omega)⟩⟩
theorem Gp {arc:Nat->Nat} {glue index:Nat->Int} {W E:Nat} {en:Nat->Nat}: ∀k,(∀x,x<k->0<=index x->(pthN arc glue (W+1) [] (arc x)).2=en x)->(∀x y,x<k->y<k->0<=index x->index x=index y->x=y)->
  ∀x,x<k->0<=index x->(index x).toNat<E->(txN arc glue index W E k).getD (index x).toNat 0=97+index (en x)
 |0,_,_,x,hx,_,_=>by omega
 |k+1,h1,h2,x,hx,h0,hE=>by
  have ih:=Gp (E:=E) k (fun x hx=>h1 x (by omega)) (fun x y hx hy=>h2 x y (by omega) (by omega));simp only [txN]
  split
  ·rename_i hk
   have:x≠k:=fun e=>by rw [e] at h0;omega
   exact ih x (by omega) h0 hE
  ·rename_i hk
   by_cases e:x=k
   ·subst e;rw [List.getD_eq_getElem?_getD,List.getElem?_set,if_pos rfl,if_pos (by rw [wC];exact hE),h1 x (by omega) h0];rfl
   ·have aw:(index k).toNat≠(index x).toNat:=fun e2=>e (h2 x k hx (by omega) h0 (by omega));rw [List.getD_eq_getElem?_getD,List.getElem?_set,if_neg aw,←List.getD_eq_getElem?_getD];exact ih x (by omega) h0 hE
theorem Pn {W:Nat} {arc:Nat->Nat} {glue:Nat->Int}: ∀k,(∀x,x<k->0<=glue x)->endN W arc glue k=List.replicate W false
 |0,_=>rfl
 |k+1,h=>by simp only [endN];rw [if_pos (h k (by omega))];exact Pn k fun x hx=>h x (by omega)
theorem Ow {W:Nat} {arc:Nat->Nat} {glue:Nat->Int} (h0:0<=glue 0): ∀k,1<=(br W arc glue (List.replicate W false) (k+1)).2
 |0=>by
  have hc: ¬(glue 0<0\/(br W arc glue (List.replicate W false) 0).1.getD 0 false=true):=by
   rintro (h|h)
   ·omega
   ·simp only [br] at h;by_cases hW:0<W<;>simp [List.getD_eq_getElem?_getD,hW] at h
  rw [br,if_neg hc];exact Nat.le_add_left _ _
 |k+1=>by
  have ih:=Ow (W:=W) (arc:=arc) h0 k;rw [br]
  split
  ·exact ih
  ·omega
section
variable {m:List Int} {n:Nat} {P:List Nat} {ends:List Int} {c:Nat} (hp:bd m n) (he:qT m n P ends) (hc:c<n) (aV:c∉P)
include hp he hc aV
theorem DU (h:Int):h∈aG m ends c↔ ∃x,x<ends.length+4/\eG (bu ends c) m x=none/\h=(bu ends c).getD x 0:=by
 rw [sU];constructor
 ·rintro ⟨j,hj,rfl⟩;obtain ⟨x,hx,gx,rfl⟩:=tI _ j hj;exact ⟨x,hx,gx,(qw hx gx).2⟩
 ·rintro ⟨x,hx,gx,rfl⟩;exact ⟨_,(qw hx gx).1,(qw hx gx).2⟩
theorem Qi {h:Int} (h1:ax n h) (h2:(h/4).toNat∈c::P) (h3: ¬(m.getD h.toNat 0/4).toNat∈P\/h/4=c):h∈bu ends c:=by
 rw [zU he hc aV];unfold ax at h1;rcases List.mem_cons.1 h2 with e|e
 ·right;exact ⟨h1.1,by omega⟩
 ·rcases h3 with h3|h3
  ·left;exact (he.mem h).2 ⟨by unfold ax;omega,e,h3⟩
  ·right;exact ⟨h1.1,h3⟩
theorem QU:qT m n (c::P) (aG m ends c):=by
 have hi:=qt hp.ok hp.inv hp.ne (fun _=>false);refine ⟨VC fun i j hi hj e=>?_,fun h=>?_⟩
 ·obtain ⟨x,hx,gx,rfl⟩:=tI _ i hi;obtain ⟨y,hy,gy,rfl⟩:=tI _ j hj;rw [(qw hx gx).2,(qw hy gy).2] at e;rw [EI (FU he hc aV) (by rw [qq];exact hx) (by rw [qq];exact hy) e]
 ·rw [DU hp he hc aV];constructor
  ·rintro ⟨x,hx,gx,rfl⟩;obtain ⟨h1,h2⟩:=wo he hc aV hx;refine ⟨h1,h2,fun h3=>?_⟩;have h4:=Uv hp he hc aV hx gx;have hr:ax n (m.getD ((bu ends c).getD x 0).toNat 0):=hi.mr _ h1;have pR:m.getD (m.getD ((bu ends c).getD x 0).toNat 0).toNat 0=(bu ends c).getD x 0:=hi.mm _ h1;refine h4 (Qi hp he hc aV hr h3 ?_);rw [pR];by_cases h5:((bu ends c).getD x 0/4).toNat∈P
   ·right;have hm:(bu ends c).getD x 0∈bu ends c:=sU.2 ⟨x,by rw [qq];exact hx,rfl⟩;rcases (zU he hc aV _).1 hm with h6|⟨h6,h7⟩
    ·have h8:=((he.mem _).1 h6).2.2;rcases List.mem_cons.1 h3 with e|e
     ·unfold ax at hr;omega
     ·exact absurd e h8
    ·rw [h7] at h5;exact absurd h5 aV
   ·exact .inl h5
  ·rintro ⟨h1,h2,h3⟩;have hm:h∈bu ends c:=Qi hp he hc aV h1 h2 (.inl fun g=>h3 (List.mem_cons_of_mem _ g));obtain ⟨x,hx,rfl⟩:=sU.1 hm;rw [qq] at hx;refine ⟨x,hx,?_,rfl⟩;cases hq:eG (bu ends c) m x with
   |none=>rfl
   |some y=>
    obtain ⟨g1,g2,g3⟩:=yA hp he hc aV hx hq
    have:=(wo he hc aV (x:=y.toNat) (by omega)).2
    rw [g3] at this;exact absurd this h3
theorem Gn {x:Nat} (hx:x<ends.length+4):(cC m ends c).getD x 0=if (eG (bu ends c) m x).isSome then-1 else ((aO (bu ends c) m x).length:Int):=Oe _ _ _ hx
theorem tO {x:Nat} (hx:x<ends.length+4) (h:eG (bu ends c) m x=none):(cC m ends c).getD x 0=(aO (bu ends c) m x).length:=by rw [Gn hp he hc aV hx,h];rfl
theorem Nt {x:Nat} (hx:x<ends.length+4):(cC m ends c).getD x 0<0↔eG (bu ends c) m x≠none:=by
 rw [Gn hp he hc aV hx];cases eG (bu ends c) m x<;>simp
theorem Ns:(aG m ends c).length<=ends.length+4:=HU _ _ _
end
def cO (m ends:List Int) (c:Nat) (T:List Nat) (b:Bool):List Nat:=
 (txN (fk ends.length T b) (fun x=>(aU m ends c).getD x 0) (fun x=>(cC m ends c).getD x 0) (ends.length+4) (aG m ends c).length (ends.length+4)).map fun t=>(t-97).toNat
def b7 (m ends:List Int) (c:Nat) (T:List Nat) (b:Bool):Nat:=
 (br (ends.length+4) (fk ends.length T b) (fun x=>(aU m ends c).getD x 0) (endN (ends.length+4) (fk ends.length T b) (fun x=>(aU m ends c).getD x 0) (ends.length+4)) (ends.length+4)).2
theorem zT (m ends:List Int) (c:Nat) (T:List Nat) (b:Bool):b7 m ends c T b<=ends.length+4:=GM _ _ _ _ _
theorem Uu (m ends:List Int) (c:Nat) (T:List Nat) (b:Bool):(cO m ends c T b).length=(aG m ends c).length:=by unfold cO;rw [List.length_map,wC]
section
variable {m:List Int} {n:Nat} {P:List Nat} {ends:List Int} {c:Nat} {T:List Nat} (hp:bd m n) (he:qT m n P ends) (hT:nA T ends.length) (hc:c<n) (aV:c∉P)
include hp he hT hc aV
theorem WO (ch:Nat->Bool):(∀k,k<ends.length+4->(aU m ends c).getD k 0<0-> ∃ys e,kj (fk ends.length T (ch c)) (fun x=>(aU m ends c).getD x 0) k ys e/\ys.length<=ends.length+4)/\
  (∀k,k<ends.length+4->0<=(aU m ends c).getD k 0->(br (ends.length+4) (fk ends.length T (ch c)) (fun x=>(aU m ends c).getD x 0) (endN (ends.length+4) (fk ends.length T (ch c)) (fun x=>(aU m ends c).getD x 0) (ends.length+4)) k).1.getD k false=false->
   ∃zs,tA (fk ends.length T (ch c)) (fun x=>(aU m ends c).getD x 0) (br (ends.length+4) (fk ends.length T (ch c)) (fun x=>(aU m ends c).getD x 0) (endN (ends.length+4) (fk ends.length T (ch c)) (fun x=>(aU m ends c).getD x 0) (ends.length+4)) k).1 k zs/\zs.length<=ends.length+4):=by
 obtain ⟨b,_,_,_,h4,h5,_⟩:=HG (DV hp he hT hc aV ch);exact ⟨fun k hk hg=>let ⟨ys,e,q1,q2,_⟩:=h4 k hk hg;⟨ys,e,q1,q2⟩,h5⟩
theorem A7 (b:Bool) (j:Nat) (hj:j<(aG m ends c).length):97<=(txN (fk ends.length T b) (fun x=>(aU m ends c).getD x 0) (fun x=>(cC m ends c).getD x 0) (ends.length+4) (aG m ends c).length (ends.length+4)).getD j 0:=by
 obtain ⟨_,_,_,_,h4,_⟩:=HG (DV hp he hT hc aV fun _=>b);obtain ⟨x,hx,hg,rfl⟩:=tI _ j hj;have rV: ∀x,x<ends.length+4->0<=(cC m ends c).getD x 0->eG (bu ends c) m x=none:=fun x hx h0=>by
  cases hq:eG (bu ends c) m x with
  |none=>rfl
  |some y=>have:=(Nt hp he hc aV hx).2 (by rw [hq];simp);omega
 obtain ⟨ys,e,q1,q2,q3,q4,q5⟩:=h4 x hx ((wA hp he hc aV hx).2 hg);have hi:=tO hp he hc aV hx hg;have ky:=tO hp he hc aV q3 ((wA hp he hc aV q3).1 q4)
 have:=Gp (arc:=fk ends.length T b) (glue:=fun x=>(aU m ends c).getD x 0) (index:=fun x=>(cC m ends c).getD x 0) (W:=ends.length+4) (E:=(aG m ends c).length) (en:=fun x=>(pthN (fk ends.length T b) (fun x=>(aU m ends c).getD x 0) (ends.length+4+1) [] (fk ends.length T b x)).2) (ends.length+4) (fun _ _ _=>rfl) (fun x y hx hy h0 e=>by
  have gx:=rV x hx h0;have gy:=rV y hy (by omega);rw [tO hp he hc aV hx gx,tO hp he hc aV hy gy] at e;exact Hz gx gy (by omega)) x hx (by omega) (by rw [hi,Int.toNat_natCast];exact hj)
 rw [yF q1 _ [] (by omega),hi,ky,Int.toNat_natCast] at this;omega
theorem tN (ch:Nat->Bool):nA (cO m ends c T (ch c)) (aG m ends c).length/\
  2*mR n (fun x=>m.getD x.toNat 0) (bST m (c::P) (aG m ends c) (cO m ends c T (ch c)) ch)+2*b7 m ends c T (ch c)+(aG m ends c).length=2*mR n (fun x=>m.getD x.toNat 0) (bST m P ends T ch)+ends.length+4:=by
 have E:=DV hp he hT hc aV ch;obtain ⟨b,h1,h2,h3,h4,_,g,h6,h7,h8⟩:=HG E;have Lt:=QU hp he hc aV;have pU:=fun {x:Nat} (hx:x<ends.length+4)=>wA hp he hc aV hx
 have Ls: ∀x,x<ends.length+4->eG (bu ends c) m x=none-> ∃e,e<ends.length+4/\eG (bu ends c) m e=none/\(pthN (fk ends.length T (ch c)) (fun x=>(aU m ends c).getD x 0) (ends.length+4+1) [] (fk ends.length T (ch c) x)).2=e/\b ((bu ends c).getD x 0)=(bu ends c).getD e 0:=fun x hx hg=>by
  obtain ⟨ys,e,q1,q2,q3,q4,q5⟩:=h4 x hx ((pU hx).2 hg);exact ⟨e,q3,(pU q3).1 q4,by rw [yF q1 _ [] (by omega)],q5⟩
 have rV: ∀x,x<ends.length+4->0<=(cC m ends c).getD x 0->eG (bu ends c) m x=none:=fun x hx h0=>by
  cases hq:eG (bu ends c) m x with
  |none=>rfl
  |some y=>have:=(Nt hp he hc aV hx).2 (by rw [hq];simp);omega
 have vE: ∀x,x<ends.length+4->eG (bu ends c) m x=none-> ∃e,e<ends.length+4/\eG (bu ends c) m e=none/\b ((bu ends c).getD x 0)=(bu ends c).getD e 0/\(cO m ends c T (ch c)).getD (aO (bu ends c) m x).length 0=(aO (bu ends c) m e).length:=fun x hx hg=>by
  obtain ⟨e,q1,q2,q3,q4⟩:=Ls x hx hg;have hi:=tO hp he hc aV hx hg;have ky:=tO hp he hc aV q1 q2;have hl:=(qw hx hg).1;refine ⟨e,q1,q2,q4,?_⟩
  have:=Gp (arc:=fk ends.length T (ch c)) (glue:=fun x=>(aU m ends c).getD x 0) (index:=fun x=>(cC m ends c).getD x 0) (W:=ends.length+4) (E:=(aG m ends c).length) (en:=fun x=>(pthN (fk ends.length T (ch c)) (fun x=>(aU m ends c).getD x 0) (ends.length+4+1) [] (fk ends.length T (ch c) x)).2) (ends.length+4) (fun _ _ _=>rfl) (fun x y hx hy h0 e=>by
   have gx:=rV x hx h0;have gy:=rV y hy (by omega);rw [tO hp he hc aV hx gx,tO hp he hc aV hy gy] at e;exact Hz gx gy (by omega)) x hx (by omega) (by rw [hi,Int.toNat_natCast];exact hl)
  rw [q3,hi,ky,Int.toNat_natCast] at this;unfold cO;rw [List.getD_eq_getElem?_getD,List.getElem?_map];rw [List.getD_eq_getElem?_getD] at this;have aA:(aO (bu ends c) m x).length<(txN (fk ends.length T (ch c)) (fun x=>(aU m ends c).getD x 0) (fun x=>(cC m ends c).getD x 0) (ends.length+4) (aG m ends c).length (ends.length+4)).length:=by rw [wC];exact hl
  rw [List.getElem?_eq_getElem aA] at this⊢;simp only [Option.getD_some,Option.map_some] at this⊢;rw [this];omega
 have tg:=fun {x:Nat} (hx:x<ends.length+4)=>(wo he hc aV hx).1;have oY:nA (cO m ends c T (ch c)) (aG m ends c).length:=by
  refine ⟨Uu _ _ _ _ _,fun j hj=>?_,fun j hj=>?_,fun j hj e=>?_⟩
  ·obtain ⟨x,hx,gx,rfl⟩:=tI _ j hj;obtain ⟨e,q1,q2,q3,q4⟩:=vE x hx gx;rw [q4];exact (qw q1 q2).1
  ·obtain ⟨x,hx,gx,rfl⟩:=tI _ j hj;obtain ⟨e,q1,q2,q3,q4⟩:=vE x hx gx;obtain ⟨e',p1,p2,p3,p4⟩:=vE e q1 q2;rw [q4,p4];rw [←q3,h1.jj _ (tg hx)] at p3;rw [E.inj x e' hx p1 p3]
  ·obtain ⟨x,hx,gx,rfl⟩:=tI _ j hj;obtain ⟨e',q1,q2,q3,q4⟩:=vE x hx gx;rw [q4] at e
   have:=Hz q2 gx e
   rw [this] at q3;exact h1.jf _ (tg hx) q3
 refine ⟨oY,?_⟩;have hb: ∀h,ax n h->bST m (c::P) (aG m ends c) (cO m ends c T (ch c)) ch h=b h:=fun h hr=>by
  by_cases hm:h∈aG m ends c
  ·obtain ⟨x,hx,gx,rfl⟩:=(DU hp he hc aV h).1 hm;obtain ⟨e,q1,q2,q3,q4⟩:=vE x hx gx;have g1:=qw hx gx
   have:=DW hp Lt oY ch g1.1
   rw [g1.2,q4,(qw q1 q2).2] at this;rw [this,q3]
  ·rw [wz hp Lt oY ch hm];by_cases hh:h∈bu ends c
   ·obtain ⟨x,hx,rfl⟩:=sU.1 hh;rw [qq] at hx;rw [if_pos (wo he hc aV hx).2];refine (h3 x hx ?_).symm;rcases Int.lt_or_le ((aU m ends c).getD x 0) 0 with q|q
    ·exact absurd ((DU hp he hc aV _).2 ⟨x,hx,(pU hx).1 q,rfl⟩) hm
    ·exact q
   ·have h9:b h=bST m P ends T ch h:=h2 h hr fun x hx e=>hh (sU.2 ⟨x,by rw [qq];exact hx,e.symm⟩);have L5:h∉ends:=fun g=>hh ((zU he hc aV h).2 (.inl g));have xP:(h/4).toNat≠c:=fun e=>hh ((zU he hc aV h).2 (.inr ⟨hr.1,by have:=hr.1;omega⟩));rw [h9,wz hp he hT ch L5];by_cases h12:(h/4).toNat∈P
    ·rw [if_pos h12,if_pos (List.mem_cons_of_mem _ h12)]
    ·rw [if_neg h12,if_neg fun g=>by rcases List.mem_cons.1 g with e|e;exact xP e;exact h12 e]
 rw [WQ (G4 hp Lt oY ch) h1 hb];have dq:(br (ends.length+4) (fk ends.length T (ch c)) (fun x=>(aU m ends c).getD x 0) (endN (ends.length+4) (fk ends.length T (ch c)) (fun x=>(aU m ends c).getD x 0) (ends.length+4)) (ends.length+4)).1.length=ends.length+4:=by rw [Er,Es]
 have iT:=Oy (hs:=bu ends c) (m:=m) (l:=(br (ends.length+4) (fk ends.length T (ch c)) (fun x=>(aU m ends c).getD x 0) (endN (ends.length+4) (fk ends.length T (ch c)) (fun x=>(aU m ends c).getD x 0) (ends.length+4)) (ends.length+4)).1) (ends.length+4) (by omega) fun x hx=>by
  rw [h8 x hx];constructor
  ·intro h e;have:=(pU hx).2 e;omega
  ·intro h;rcases Int.lt_or_le ((aU m ends c).getD x 0) 0 with q|q
   ·exact absurd ((pU hx).1 q) h
   ·exact q
 rw [List.take_of_length_le (by omega),←h7] at iT;unfold b7
 have:(aG m ends c).length+g=ends.length+4:=iT
 omega
theorem QT (b:Bool) (h0:aG m ends c=[]):1<=b7 m ends c T b:=by
 have hg: ∀x,x<ends.length+4->0<=(aU m ends c).getD x 0:=fun x hx=>by
  rcases Int.lt_or_le ((aU m ends c).getD x 0) 0 with q|q
  ·have:=(DU hp he hc aV _).2 ⟨x,hx,(wA hp he hc aV hx).1 q,rfl⟩
   rw [h0] at this;simp at this
  ·exact q
 unfold b7;rw [Pn _ hg];exact Ow (hg 0 (by omega)) (ends.length+3)
end
theorem DT {m:List Int} {n:Nat} {P:List Nat} {ends:List Int} (hp:bd m n) (he:qT m n P ends) (hP: ∀c,c<n->c∈P):ends=[]:=by
 match ends,he with
 |[],_=>rfl
 |h::t,he=>
  obtain ⟨h1,_,h3⟩:=(he.mem h).1 (List.mem_cons_self ..);have hr:ax n (m.getD h.toNat 0):=(qt hp.ok hp.inv hp.ne (fun _=>false)).mr _ h1;unfold ax at hr;exact absurd (hP _ (by omega)) h3
theorem QS {k i:Nat} (h:k<2^i):da k i=false:=by unfold da;rw [Nat.div_eq_of_lt h];rfl
theorem Nr {k i c:Nat} (hc:c<i):da (2^i+k) c=da k c:=by
 unfold da;obtain ⟨d,rfl⟩: ∃d,i=c+(d+1):=⟨i-c-1,by omega⟩;rw [Nat.pow_add,Nat.mul_add_div (Nat.pow_pos (by omega)),Nat.pow_succ];congr 1;omega
theorem Nq {k i:Nat} (h:k<2^i):da (2^i+k) i=true:=by
 unfold da
 have:=Nat.mul_add_div (m:=2^i) (Nat.pow_pos (by omega)) 1 k
 rw [Nat.mul_one,Nat.div_eq_of_lt h] at this;rw [this];rfl
theorem Jj {l k:List Nat} (hn:l.Nodup) (Q:Nat->Nat->Prop) (h: ∀x∈l,∃y∈k,Q x y) (hi: ∀x x' y,x∈l->x'∈l->Q x y->Q x' y->x=x'):l.length<=k.length:=by
 have hc: ∀x:Nat,∃y,x∈l->y∈k/\Q x y:=fun x=>by
  by_cases hx:x∈l
  ·obtain ⟨y,h1,h2⟩:=h x hx;exact ⟨y,fun _=>⟨h1,h2⟩⟩
  ·exact ⟨0,fun h=>absurd h hx⟩
 have hf:=fun x=>Classical.choose_spec (hc x)
 have:l.length=(l.map fun x=>Classical.choose (hc x)).length:=by simp
 rw [this];refine q8 (P0 (fun x hx y hy e=>?_) hn) fun y hy=>?_
 ·have a:=(hf x hx).2;have b:=(hf y hy).2;rw [e] at a;exact hi x y _ hx hy a b
 ·obtain ⟨x,hx,rfl⟩:=List.mem_map.1 hy;exact (hf x hx).1
theorem DS (f:Nat->Int) (a:Nat): ∀b,sm f (a*b)=sm (fun k2=>sm (fun k1=>f (a*k2+k1)) a) b
 |0=>rfl
 |b+1=>by rw [Nat.mul_succ,Eu,DS f a b];rfl
theorem GL {k1 k2 i c:Nat} (hc:c<i):da (2^i*k2+k1) c=da k1 c:=by
 unfold da;obtain ⟨d,rfl⟩: ∃d,i=c+(d+1):=⟨i-c-1,by omega⟩;rw [Nat.pow_add,Nat.mul_assoc,Nat.mul_add_div (Nat.pow_pos (by omega)),Nat.pow_succ,Nat.mul_comm (2^d) 2,Nat.mul_assoc,Nat.mul_add_mod]
theorem DL {k1 k2 i c:Nat} (h:k1<2^i):da (2^i*k2+k1) (i+c)=da k2 c:=by
 unfold da;rw [Nat.pow_add,←Nat.div_div_eq_div_mul,Nat.mul_add_div (Nat.pow_pos (by omega)),Nat.div_eq_of_lt h,Nat.add_zero]
theorem ES {b:Bool} {ch ch':Nat->Bool}: ∀{n:Nat},(∀c,c<n->ch c=ch' c)->difS b ch n=difS b ch' n
 |0,_=>rfl
 |n+1,h=>by simp only [difS];rw [ES fun c hc=>h c (by omega),h n (by omega)]
theorem Ov (b:Bool) (ch:Nat->Bool) (n1:Nat): ∀n2,difS b ch (n1+n2)=difS b ch n1+difS b (fun c=>ch (n1+c)) n2
 |0=>rfl
 |n2+1=>by rw [←Nat.add_assoc];simp only [difS];rw [Ov b ch n1 n2];omega
theorem Hy {k1 k2 n1 n2:Nat} (h:k1<2^n1):gR (2^n1*k2+k1) (n1+n2)=gR k1 n1+gR k2 n2:=by
 rw [yD,yD,yD,Ov,ES fun c hc=>GL hc,ES (n:=n2) fun c _=>DL h]
end Go.Proofs.YtphjphpmfflfpaaGreatDoor
