/- Plain: the circles of a union, and the product of two brackets. -/
import Derived.Test.YtjpbeacamoijhaaGreatDoorZn
import Derived.Test.YtjpbeacamoijhaaGreatDoorZo
namespace Go.Proofs.YtjpbeacamoijhaaGreatDoor
set_option linter.unusedSimpArgs false
set_option linter.unusedVariables false
theorem y0s (b:Bool) (x:Int) (n:Nat):aF b (x+4*n)=aF b x+4*n:=by
 unfold aF;rw [tK,sH,tK,sH,show (x+4*(n:Int))% 2=x % 2 by omega]
 split<;>omega
section
variable {m1 m2:List Int} {n1 n2:Nat}
end
section
variable {m1 m2:List Int} {n1 n2 L1 L2:Nat}
end
section
variable {m:List Int} {n c:Nat} {b:Bool}
theorem RK: ∀(f:Nat) (w:Int) (i:Nat),i<=f->(∀j,j<i->it (cm m b) j w/4=(c:Int))->it (cm m b) i w/4≠(c:Int)->cW m b c f w=it (cm m b) i w
 |0,w,i,hi,_,_=>by obtain rfl:i=0:=by omega
                   rfl
 |f+1,w,0,_,_,h=>Be h
 |f+1,w,i+1,hi,h,h'=>by
  have e: ∀j,it (cm m b) (j+1) w=it (cm m b) j (cm m b w):=fun j=>by rw [A5];rfl
  have h0:w/4=(c:Int):=h 0 (by omega);rw [Eu h0,e];rw [e] at h';exact RK f (cm m b w) i (by omega) (fun j hj=>by rw [←e];exact h (j+1) (by omega)) h'
theorem Ld: ∀(f:Nat) (w:Int),∃i,i<=f/\(∀j,j<i->it (cm m b) j w/4=(c:Int))/\cW m b c f w=it (cm m b) i w
 |0,w=>⟨0,by omega,fun j hj=>by omega,rfl⟩
 |f+1,w=>by
  by_cases h0:w/4=(c:Int)
  ·obtain ⟨i,h1,h2,h3⟩:=Ld f (cm m b w);have e: ∀j,it (cm m b) (j+1) w=it (cm m b) j (cm m b w):=fun j=>by rw [A5];rfl
   refine ⟨i+1,by omega,fun j hj=>?_,by rw [Eu h0,e];exact h3⟩;cases j with
   |zero=>exact h0
   |succ j=>rw [e];exact h2 j (by omega)
  ·exact ⟨0,by omega,fun j hj=>by omega,Be h0⟩
def Na (m:List Int) (b:Bool) (c:Nat) (h:Nat) (y:Int):Prop:= ∃i,(∀j,j<=i->it (cm m b) j (m.getD h 0)/4=(c:Int))/\(y=it (cm m b) i (m.getD h 0)\/y=aF b (it (cm m b) i (m.getD h 0)))
theorem RJ: ∀(f:Nat) (w:Int) (u:Int->Bool) (y:Int),thrU m b c f w u y=true↔u y=true\/ ∃i,i<f/\(∀j,j<=i->it (cm m b) j w/4=(c:Int))/\(y=it (cm m b) i w\/y=aF b (it (cm m b) i w))
 |0,w,u,y=>by
  constructor
  ·intro h;exact .inl h
  ·rintro (h|⟨i,hi,_⟩)
   ·exact h
   ·omega
 |f+1,w,u,y=>by
  have e: ∀j,it (cm m b) (j+1) w=it (cm m b) j (cm m b w):=fun j=>by rw [A5];rfl
  by_cases h0:w/4=(c:Int)
  ·rw [QW h0,show m.getD (aF b w).toNat 0=cm m b w from rfl,RJ f];constructor
   ·rintro (h|⟨i,hi,h1,h2⟩)
    ·simp only [lr,Bool.or_eq_true,beq_iff_eq] at h;rcases h with (h|h)|h
     ·exact .inl h
     ·exact .inr ⟨0,by omega,fun j hj=>by obtain rfl:j=0:=by omega
                                          exact h0, .inl h⟩
     ·exact .inr ⟨0,by omega,fun j hj=>by obtain rfl:j=0:=by omega
                                          exact h0, .inr h⟩
    ·refine .inr ⟨i+1,by omega,fun j hj=>?_,by rw [e];exact h2⟩;cases j with
     |zero=>exact h0
     |succ j=>rw [e];exact h1 j (by omega)
   ·rintro (h|⟨i,hi,h1,h2⟩)
    ·exact .inl (by simp [lr,h])
    ·cases i with
     |zero=>
      refine .inl ?_;simp only [lr,Bool.or_eq_true,beq_iff_eq];rcases h2 with h2|h2
      ·exact .inl (.inr h2)
      ·exact .inr h2
     |succ i=>
      rw [e] at h2;exact .inr ⟨i,by omega,fun j hj=>by rw [←e];exact h1 (j+1) (by omega),h2⟩
  ·rw [QV h0];constructor
   ·exact .inl
   ·rintro (h|⟨i,_,h1,_⟩)
    ·exact h
    ·exact absurd (h1 0 (by omega)) h0
theorem RH (hp:gR m n) (hc:c<n) {h:Nat} (hh:h<4*n) (ho:h/4≠c) {i:Nat} (h1: ∀j,j<=i->it (cm m b) j (m.getD h 0)/4=(c:Int)):i<5:=by
 obtain ⟨k,k1,k2,k3⟩:=Ld (m:=m) (b:=b) (c:=c) 5 (m.getD h 0)
 have:=Dj (b:=b) hp hc hh ho
 rw [k3] at this;by_cases hk:k<=i
 ·exact absurd (h1 k hk) this
 ·omega
theorem Qs (hp:gR m n) (hc:c<n) (y:Int): ∀k,k<=4*n->(mn m b c k y=true↔ ∃h,h<k/\h/4≠c/\Na m b c h y)
 |0,_=>by
  constructor
  ·intro h;cases h
  ·rintro ⟨h,hh,_⟩;omega
 |k+1,hk=>by
  have ih:=Qs hp hc y k (by omega);simp only [mn]
  split
  ·rename_i e
   rw [ih];constructor
   ·rintro ⟨h,h1,h2⟩;exact ⟨h,by omega,h2⟩
   ·rintro ⟨h,h1,h2,h3⟩
    have:h≠k:=fun e'=>h2 (by rw [e'];exact e)
    exact ⟨h,by omega,h2,h3⟩
  ·rename_i e
   rw [RJ,ih];constructor
   ·rintro (⟨h,h1,h2⟩|⟨i,h1,h2,h3⟩)
    ·exact ⟨h,by omega,h2⟩
    ·exact ⟨k,by omega,e,i,h2,h3⟩
   ·rintro ⟨h,h1,h2,i,h3,h4⟩;by_cases e':h=k
    ·subst e';exact .inr ⟨i,RH hp hc (by omega) h2 h3,h3,h4⟩
    ·exact .inl ⟨h,by omega,h2,i,h3,h4⟩
theorem Ey: ∀(f:Nat) (x:Int) (u:Int->Bool) (y:Int),u y=true->pU m b f x u y=true
 |0,_,_,_,h=>h
 |f+1,x,u,y,h=>by
  unfold pU
  split
  ·exact h
  ·exact Ey f _ _ _ (by simp [lr,h])
end
def dY (c:Nat) (y:Int):Int:=if (c:Int)<y/4 then y-4 else y
def lu (c:Nat) (x:Int):Int:=if x/4<(c:Int) then x else x+4
theorem Ep (c:Nat) (x:Int):lu c x/4≠(c:Int):=by unfold lu;split<;>omega
theorem KL (c:Nat) (x:Int):dY c (lu c x)=x:=by unfold dY lu;split<;>split<;>omega
theorem D8 {c:Nat} {y:Int} (h:y/4≠(c:Int)):lu c (dY c y)=y:=by unfold dY lu;split<;>split<;>omega
theorem Eo {n c:Nat} {x:Int} (hx:aA (n-1) x):aA n (lu c x):=by unfold aA at*;unfold lu;split<;>omega
theorem LL {n c:Nat} (hc:c<n) {y:Int} (hy:aA n y) (h:y/4≠(c:Int)):aA (n-1) (dY c y):=by unfold aA at*;unfold dY;split<;>omega
def Bo (ch:Nat->Bool) (c:Nat) (i:Nat):Bool:=ch (if i<c then i else i+1)
theorem Zt {c:Nat} (ch:Nat->Bool) {y:Int} (h0:0<=y) (h:y/4≠(c:Int)):aF (Bo ch c (dY c y/4).toNat) (dY c y)=dY c (aF (ch (y/4).toNat) y):=by
 have hd:=qc (ch (y/4).toNat) y;unfold dY Bo;rw [hd];by_cases e:(c:Int)<y/4
 ·rw [if_pos e,if_pos e,if_neg (by omega),show ((y-4)/4).toNat+1=(y/4).toNat by omega]
  have:=y0s (ch (y/4).toNat) (y-4) 1
  rw [show y-4+4*((1:Nat):Int)=y by omega] at this;omega
 ·rw [if_neg e,if_neg e,if_pos (by omega)]
section
variable {m m':List Int} {n c:Nat} {b:Bool} {mt jn mt' jn':Int->Int} (hp:jh m n) (hc:c<n) (hi:Inv2 n mt jn) (nT: ∀x,mt x=m.getD x.toNat 0) (ug: ∀x,jn x/4=x/4) (mW: ∀x,x/4=(c:Int)->jn x=aF b x)
theorem jh.dB (hp:jh m n):gR m n:=⟨hp.ok,hp.inv⟩
include mW nT
theorem Lc {h:Nat} {i:Nat} (df: ∀j,j<i->it (cm m b) j (m.getD h 0)/4=(c:Int)):bH mt jn h (it (cm m b) i (m.getD h 0)):=by
 induction i with
 |zero=>
  have h1:=bH.mate (mt:=mt) (jn:=jn) (.refl (h:Int));rw [nT] at h1;exact h1
 |succ i ih=>
  have h1:=bH.mate (bH.join (ih fun j hj=>df j (by omega)));rw [mW _ (df i (by omega)),nT] at h1;exact h1
theorem ZY {h:Nat} {y:Int} (ht:Na m b c h y):bH mt jn h y:=by
 obtain ⟨i,h1,rfl|rfl⟩:=ht
 ·exact Lc nT mW fun j hj=>h1 j (by omega)
 ·have h2:=bH.join (Lc nT mW (i:=i) fun j hj=>h1 j (by omega));rwa [mW _ (h1 i (Nat.le_refl _))] at h2
variable (sB:Inv2 (n-1) mt' jn') (qw: ∀x:Nat,x<4*(n-1)->mt' x=dY c (cW m b c 5 (m.getD (lu c x).toNat 0))) (ue: ∀y:Int,0<=y->y/4≠(c:Int)->jn' (dY c y)=dY c (jn y))
include hp hc hi ug sB qw ue
omit hi in
theorem ZX {x y:Int} (hx:aA (n-1) x) (h:bH mt' jn' x y):bH mt jn (lu c x) (lu c y):=by
 induction h with
 |refl=>exact .refl _
 | @mate y h ih=>
   have hy:=h.iV sB hx;have hr:=Eo (c:=c) hy;have ho:=Ep c y;obtain ⟨k,rfl⟩: ∃k:Nat,y=k:=⟨y.toNat,by unfold aA at hy;omega⟩;obtain ⟨u,hu⟩: ∃u:Nat,lu c (k:Int)=u:=⟨(lu c (k:Int)).toNat,by unfold aA at hr;omega⟩;unfold aA at hr hy;rw [hu] at ih ho hr;rw [qw k (by omega),hu,Int.toNat_natCast,D8 (Dj hp.dB hc (by omega) (by omega))]
   obtain ⟨i,_,h2,h3⟩:=Ld (m:=m) (b:=b) (c:=c) 5 (m.getD u 0);rw [h3];exact ih.trans (Lc nT mW h2)
 | @join y h ih=>
   have hy:=h.iV sB hx;have hr:=Eo (c:=c) hy;have ho:=Ep c y;have h1:=ue (lu c y) hr.1 ho;rw [KL] at h1;rw [h1,D8 (by rw [ug];exact ho)];exact ih.trans (.join (.refl _))
omit sB in
theorem U5 {x v:Int} (hx:aA (n-1) x) (h:bH mt jn (lu c x) v):(v/4≠(c:Int)->bH mt' jn' x (dY c v))/\(v/4=(c:Int)-> ∃z:Nat,z<4*n/\z/4≠c/\bH mt' jn' x (dY c z)/\Na m b c z v):=by
 have key: ∀z:Nat,z<4*n->z/4≠c->mt' (dY c z)=dY c (cW m b c 5 (m.getD z 0)):=fun z hz ho=>by
  have hk:=LL hc (y:=(z:Int)) (by unfold aA;omega) (by omega);have h1:=D8 (c:=c) (y:=(z:Int)) (by omega);unfold aA at hk;obtain ⟨k,vM⟩: ∃k:Nat,dY c (z:Int)=k:=⟨(dY c (z:Int)).toNat,by omega⟩;rw [vM] at h1 hk⊢;rw [qw k (by omega),h1,Int.toNat_natCast]
 induction h with
 |refl=>exact ⟨fun _=>by rw [KL];exact .refl _,fun e=>absurd e (Ep c x)⟩
 | @mate v h ih=>
   have hv:=h.iV hi (Eo hx);have Wh:=hi.mr _ hv;by_cases df:v/4=(c:Int)
   ·obtain ⟨z,z1,z2,z3,i,z4,z5⟩:=ih.2 df;rcases z5 with z5|z5
    ·cases i with
     |zero=>
      have e:mt v=z:=by rw [z5];show mt (m.getD z 0)=_;rw [nT,hp.inv z z1]
      rw [e];exact ⟨fun _=>z3,fun e=>absurd e (by omega)⟩
     |succ k=>
      have e:mt v=aF b (it (cm m b) k (m.getD z 0)):=by
       have hk:=z4 k (by omega);have hd:=qc b (it (cm m b) k (m.getD z 0));rw [z5];show mt (m.getD (aF b (it (cm m b) k (m.getD z 0))).toNat 0)=_;have h2:=hp.inv (aF b (it (cm m b) k (m.getD z 0))).toNat (by omega);rw [nT,h2];omega
      rw [e];have On:aF b (it (cm m b) k (m.getD z 0))/4=(c:Int):=by rw [qc];exact z4 k (by omega)
      exact ⟨fun e=>absurd On e,fun _=>⟨z,z1,z2,z3,k,fun j hj=>z4 j (by omega), .inr rfl⟩⟩
    ·have e:mt v=it (cm m b) (i+1) (m.getD z 0):=by rw [z5,nT];rfl
     rw [e];refine ⟨fun ho=>?_,fun zo=>⟨z,z1,z2,z3,i+1,fun j hj=>?_, .inl rfl⟩⟩
     ·have h5:=RH (b:=b) hp.dB hc z1 z2 z4;have h6:=RK (c:=c) 5 (m.getD z 0) (i+1) (by omega) (fun j hj=>z4 j (by omega)) ho;have h7:=z3.mate;rw [key z z1 z2,h6] at h7;exact h7
     ·by_cases iQ:j<=i
      ·exact z4 j iQ
      ·obtain rfl:j=i+1:=by omega
       exact zo
   ·have h0:=ih.1 df;unfold aA at hv;obtain ⟨z,rfl⟩: ∃z:Nat,v=z:=⟨v.toNat,by omega⟩;refine ⟨fun ho=>?_,fun zo=>⟨z,by omega,by omega,h0,0,fun j hj=>?_, .inl ?_⟩⟩
    ·have h7:=h0.mate;rw [key z (by omega) (by omega),Be (by rw [nT] at ho;exact ho)] at h7;rw [nT];exact h7
    ·obtain rfl:j=0:=by omega
     rw [nT] at zo;exact zo
    ·rw [nT];rfl
 | @join v h ih=>
   have hv:=h.iV hi (Eo hx);by_cases df:v/4=(c:Int)
   ·obtain ⟨z,z1,z2,z3,i,z4,z5⟩:=ih.2 df;rw [mW _ df];refine ⟨fun e=>absurd (by rw [qc];exact df) e,fun _=>⟨z,z1,z2,z3,i,z4,?_⟩⟩;rcases z5 with z5|z5
    ·exact .inr (by rw [z5])
    ·exact .inl (by rw [z5,uC])
   ·have h0:=(ih.1 df).join;rw [ue v hv.1 df] at h0;exact ⟨fun _=>h0,fun e=>absurd (by rw [←ug];exact e) df⟩
omit sB in
theorem ZW {v:Int} (hv:v/4=(c:Int)):mn m b c (4*n) v=true↔ ∃z:Nat,z<4*n/\z/4≠c/\bH mt jn z v:=by
 rw [Qs hp.dB hc v _ (Nat.le_refl _)];constructor
 ·rintro ⟨h,h1,h2,h3⟩;exact ⟨h,h1,h2,ZY nT mW h3⟩
 ·rintro ⟨z,z1,z2,z3⟩;have hk:=LL hc (y:=(z:Int)) (by unfold aA;omega) (by omega);rw [←D8 (c:=c) (y:=(z:Int)) (by omega)] at z3;obtain ⟨h,h1,h2,_,h4⟩:=(U5 hp hc hi nT ug mW qw ue hk z3).2 hv;exact ⟨h,h1,h2,h4⟩
end
theorem Tc {R:List Int} {N:Nat} (hR:l6 R N) {l:List Nat} (hm: ∀x∈l,x<N) (hp:l.Pairwise fun x y=>R.getD x 0≠R.getD y 0) (cg: ∀x,x<N-> ∃y∈l,R.getD x 0=R.getD y 0):roots R=l.length:=by
 have h1:(l.map fun x=>(R.getD x 0).toNat).Nodup:=by
  rw [List.nodup_iff_pairwise_ne,List.pairwise_map];refine hp.imp_of_mem fun ha hb h e=>h ?_
  have:=hR.iV _ (hm _ ha)
  have:=hR.iV _ (hm _ hb)
  omega
 have h2:roots R=((List.range N).filter fun x=>R.getD x 0==(x:Int)).length:=by unfold roots;rw [hR.len,List.countP_eq_length_filter]
 have h3:((List.range N).filter fun x=>R.getD x 0==(x:Int)).Nodup:=List.nodup_range.filter _;rw [h2];refine Nat.le_antisymm ?_ ?_
 ·have:=Jw h3 (k:=l.map fun x=>(R.getD x 0).toNat) fun x hx=>?_
  ·rwa [List.length_map] at this
  ·obtain ⟨h4,h5⟩:=List.mem_filter.1 hx;obtain ⟨y,h6,h7⟩:=cg x (List.mem_range.1 h4);have h8:=eq_of_beq h5;exact List.mem_map.2 ⟨y,h6,by omega⟩
 ·have:=Jw h1 (k:=(List.range N).filter fun x=>R.getD x 0==(x:Int)) fun x hx=>?_
  ·rwa [List.length_map] at this
  ·obtain ⟨y,h6,h7⟩:=List.mem_map.1 hx;have h8:=hR.iV y (hm y h6);have h9:=hR.idem y (hm y h6);rw [h7] at h9;exact List.mem_filter.2 ⟨List.mem_range.2 (by omega),by rw [h9];exact beq_iff_eq.2 (by omega)⟩
section
variable {m m':List Int} {n c:Nat} {b:Bool} {mt jn mt' jn':Int->Int} (hp:jh m n) (hc:c<n) (hi:Inv2 n mt jn) (nT: ∀x,mt x=m.getD x.toNat 0) (ug: ∀x,jn x/4=x/4) (mW: ∀x,x/4=(c:Int)->jn x=aF b x)
include nT mW
theorem Qr: ∀(f:Nat) (x:Int) (u:Int->Bool) (y:Int),x/4=(c:Int)->(∀z,z/4=(c:Int)->u z=false->cm m b z/4=(c:Int))->pU m b f x u y=true->u y=true\/bH mt jn x y
 |0,_,_,_,_,_,h=> .inl h
 |f+1,x,u,y,hx,hu,h=>by
  cases e:u x with
  |true=>rw [Uv e] at h;exact .inl h
  |false=>
   rw [HM e] at h;have s1:bH mt jn x (aF b x):=by have:=bH.join (bH.refl (mt:=mt) (jn:=jn) x);rwa [mW _ hx] at this
   rcases Qr f _ _ y (hu x hx e) (fun z hz h'=>hu z hz (by simp only [lr,Bool.or_eq_false_iff] at h';exact h'.1.1)) h with h1|h1
   ·simp only [lr,Bool.or_eq_true,beq_iff_eq] at h1;rcases h1 with (h1|rfl)|rfl
    ·exact .inl h1
    ·exact .inr (.refl _)
    ·exact .inr s1
   ·have s2:=s1.mate;rw [nT] at s2;exact .inr (s2.trans h1)
variable (sB:Inv2 (n-1) mt' jn') (qw: ∀x:Nat,x<4*(n-1)->mt' x=dY c (cW m b c 5 (m.getD (lu c x).toNat 0))) (ue: ∀y:Int,0<=y->y/4≠(c:Int)->jn' (dY c y)=dY c (jn y))
include hp hc hi ug sB qw ue
theorem y4j {R R':List Int} (hR:l7 n mt jn R) (zy:l7 (n-1) mt' jn' R'):(roots R:Int)=roots R'+nt m b c n:=by
 obtain ⟨u0,DE⟩: ∃u,u=mn m b c (4*n):=⟨_,rfl⟩;have hS: ∀v:Int,v/4=(c:Int)->(u0 v=true↔ ∃z:Nat,z<4*n/\z/4≠c/\bH mt jn z v):=fun v hv=>by rw [DE];exact ZW hp hc hi nT ug mW qw ue hv
 have aY:Bc b u0:=by rw [DE];exact XZ _
 have df: ∀z:Int,z/4=(c:Int)->u0 z=false->cm m b z/4=(c:Int):=fun z hz h=>PI hp.dB hc hz (by rw [←DE];exact h);obtain ⟨X,hX⟩: ∃X:Nat,X=if b then 4*c+1 else 4*c+3:=⟨_,rfl⟩;have hXi:(if b then 4*(c:Int)+1 else 4*(c:Int)+3)=(X:Int):=by rw [hX];split<;>simp
 obtain ⟨J,hJ,WN⟩: ∃J:Nat,aF b (4*(c:Int))=J/\J=if b then 4*c+3 else 4*c+1:=by
  obtain ⟨a1,_,_,_,a5,_,_,_⟩:=HG c;refine ⟨_,?_,rfl⟩;rw [show 4*(c:Int)=((4*c:Nat):Int) by omega];cases b with
  |true=>rw [a1];rfl
  |false=>rw [a5];rfl
 have Kc:aF b (X:Int)=((4*c+2:Nat):Int):=by
  obtain ⟨_,a2,_,_,_,_,_,a8⟩:=HG c;rw [hX];cases b with
  |true=>exact a2
  |false=>exact a8
 have hXJ:X≠J/\4*c<X/\X<4*c+4/\4*c<J/\J<4*c+4/\X≠4*c+2/\J≠4*c+2:=by rw [hX,WN];split<;>omega
 have four: ∀x:Nat,x/4=c->x=4*c\/x=J\/x=X\/x=4*c+2:=fun x hx=>by rw [hX,WN];split<;>omega
 have c4:(4*(c:Int))/4=(c:Int):=by omega
 have cX:(X:Int)/4=(c:Int):=by omega
 have k4:(4*(c:Int))=((4*c:Nat):Int):=by omega
 obtain ⟨u1,wz⟩: ∃u,u=if u0 (4*c) then u0 else pU m b 5 (4*c) u0:=⟨_,rfl⟩;have yy:u1 X=false->u0 X=false:=fun h=>by
  rw [wz] at h;cases e:u0 X with
  |false=>rfl
  |true=>
   split at h
   ·rw [e] at h;cases h
   ·rw [Ey 5 _ _ _ e] at h;cases h
 have wT:u0 (4*c)=false->u1 X=true->u0 X=true\/bH mt jn ((4*c:Nat):Int) X:=fun h0 h1=>by
  rw [wz,if_neg (by rw [h0];simp)] at h1
  have:=Qr nT mW 5 _ u0 _ c4 df h1
  rwa [←k4]
 have Oe:u0 (4*c)=false->bH mt jn ((4*c:Nat):Int) X->u1 X=true:=fun h0 h1=>by
  rw [wz,if_neg (by rw [h0];simp),HM h0];have hh:=df _ c4 h0;obtain ⟨h,Wu⟩: ∃h:Nat,cm m b (4*c)=h:=⟨(cm m b (4*c)).toNat,by omega⟩;rw [Wu] at hh⊢;rw [hJ];have Ob:m.getD J 0=h:=by rw [←Wu];unfold cm;rw [hJ,Int.toNat_natCast]
  have VY:Bc b (lr u0 (4*c) J):=by rw [←hJ];exact Te aY _
  have key:lr u0 (4*c) J h=false->(h=X\/h=4*c+2)->pU m b 4 h (lr u0 (4*c) J) X=true:=fun e1 e2=>by
   rw [HM e1];refine Ey 3 _ _ _ ?_;rcases e2 with rfl|rfl
   ·simp [lr]
   ·rw [←Kc,uC];simp [lr]
  rcases four h (by omega) with e|e|e|e
  ·exfalso;have rH: ∀y,bH mt jn ((4*c:Nat):Int) y->y=((4*c:Nat):Int)\/y=J:=fun y hy=>by
    have h2:=hp.inv J (by omega);rw [Ob,e,Int.toNat_natCast] at h2
    induction hy with
    |refl=>exact .inl rfl
    |mate _ ih=>
     rcases ih with rfl|rfl
     ·right;rw [nT,Int.toNat_natCast];exact h2
     ·left;rw [nT,Int.toNat_natCast,Ob,e]
    |join _ ih=>
     rcases ih with rfl|rfl
     ·right;rw [mW _ (by omega),←k4];exact hJ
     ·left;rw [mW _ (by omega),←hJ,uC];exact k4
   rcases rH _ h1 with e'|e'<;>omega
  ·exact absurd (by rw [Ob,e]) (hp.ne J (by omega))
  ·cases e1:lr u0 (4*c) J h with
   |true=>exact Ey 4 _ _ _ (by rw [←e];exact e1)
   |false=>exact key e1 (.inl e)
  ·cases e1:lr u0 (4*c) J h with
   |true=>refine Ey 4 _ _ _ ?_;rw [VY,Kc,←e];exact e1
   |false=>exact key e1 (.inr e)
 have tZ:nt m b c n=(if u0 (4*c) then 0 else 1)+(if u1 X then 0 else 1):=by
  unfold nt;simp only;rw [hXi,wz,DE]
 have Cq: ∀x y:Nat,x<4*n->y<4*n->(R.getD x 0=R.getD y 0↔bH mt jn x y):=hR.iff;have E3: ∀k,k<4*(n-1)->(((lu c k).toNat:Nat):Int)=lu c k/\(lu c k).toNat<4*n/\(lu c k).toNat/4≠c:=fun k hk=>by
  have h1:=Eo (n:=n) (c:=c) (x:=(k:Int)) (by unfold aA;omega);have h2:=Ep c k;unfold aA at h1;omega
 have iR: ∀k,k<4*(n-1)-> ∀v:Nat,v/4=c->v<4*n->u0 v=false->R.getD (lu c k).toNat 0≠R.getD v 0:=fun k hk v hv BL h0 e=>by
  obtain ⟨g1,g2,g3⟩:=E3 k hk
  have:=(hS v (by omega)).2 ⟨_,g2,g3,(Cq _ _ g2 BL).1 e⟩
  rw [h0] at this;cases this
 have fin:roots R=(((List.range (4*(n-1))).filter fun x=>R'.getD x 0==(x:Int)).map (fun k:Nat=>(lu c k).toNat)++((if u0 (4*c) then [] else [4*c])++(if u1 X then [] else [X]))).length:=by
  refine Tc hR.rep (fun x hx=>?_) ?_ (fun x hx=>?_)
  ·rcases List.mem_append.1 hx with h|h
   ·obtain ⟨k,h1,rfl⟩:=List.mem_map.1 h;exact (E3 k (List.mem_range.1 (List.mem_filter.1 h1).1)).2.1
   ·rcases List.mem_append.1 h with h|h
    ·split at h
     ·cases h
     ·obtain rfl:=List.mem_singleton.1 h;omega
    ·split at h
     ·cases h
     ·obtain rfl:=List.mem_singleton.1 h;omega
  ·refine List.pairwise_append.2 ⟨?_,List.pairwise_append.2 ⟨?_,?_,fun x hx y hy e=>?_⟩,fun x hx y hy=>?_⟩
   ·rw [List.pairwise_map];refine (List.nodup_iff_pairwise_ne.1 (List.nodup_range.filter _)).imp_of_mem fun {a b} ha hb ax e=>ax ?_;obtain ⟨a1,a2⟩:=List.mem_filter.1 ha;obtain ⟨b1,b2⟩:=List.mem_filter.1 hb;have a1:=List.mem_range.1 a1;have b1:=List.mem_range.1 b1;obtain ⟨g1,g2,g3⟩:=E3 a a1;obtain ⟨f1,f2,f3⟩:=E3 b b1;have h1:=(Cq _ _ g2 f2).1 e;rw [g1,f1] at h1
    have h2:=(U5 hp hc hi nT ug mW qw ue (by unfold aA;omega) h1).1 (Ep c b);rw [KL] at h2;have h3:=(zy.iff a b a1 b1).2 h2;have a2:=eq_of_beq a2;have b2:=eq_of_beq b2;omega
   ·split<;>simp
   ·split<;>simp
   ·split at hx
    ·cases hx
    ·split at hy
     ·cases hy
     ·rename_i h0 h1
      obtain rfl:=List.mem_singleton.1 hx;obtain rfl:=List.mem_singleton.1 hy;exact h1 (Oe (Bool.eq_false_iff.2 h0) ((Cq _ _ (by omega) (by omega)).1 e))
   ·obtain ⟨k,h1,rfl⟩:=List.mem_map.1 hx;have hk:=List.mem_range.1 (List.mem_filter.1 h1).1;rcases List.mem_append.1 hy with h|h
    ·split at h
     ·cases h
     ·rename_i h0
      obtain rfl:=List.mem_singleton.1 h;exact iR k hk _ (by omega) (by omega) (by rw [←k4];exact Bool.eq_false_iff.2 h0)
    ·split at h
     ·cases h
     ·rename_i h0
      obtain rfl:=List.mem_singleton.1 h;exact iR k hk _ (by omega) (by omega) (yy (Bool.eq_false_iff.2 h0))
  ·have Fx: ∀z:Nat,z<4*n->z/4≠c-> ∃y∈((List.range (4*(n-1))).filter fun x=>R'.getD x 0==(x:Int)).map (fun k:Nat=>(lu c k).toNat),R.getD z 0=R.getD y 0:=fun z hz ho=>by
    have hk:=LL hc (y:=(z:Int)) (by unfold aA;omega) (by omega);have h1:=D8 (c:=c) (y:=(z:Int)) (by omega);unfold aA at hk;obtain ⟨k,vM⟩: ∃k:Nat,dY c (z:Int)=k:=⟨(dY c (z:Int)).toNat,by omega⟩;rw [vM] at h1 hk;have AK:k<4*(n-1):=by omega
    have r1:=zy.rep.iV k AK;have r2:=zy.rep.idem k AK;obtain ⟨r,hr⟩: ∃r:Nat,R'.getD k 0=r:=⟨(R'.getD k 0).toNat,by omega⟩;rw [hr] at r1 r2;rw [Int.toNat_natCast] at r2;have sV:r<4*(n-1):=by omega
    obtain ⟨f1,f2,f3⟩:=E3 r sV;refine ⟨(lu c r).toNat,List.mem_map.2 ⟨r,List.mem_filter.2 ⟨List.mem_range.2 sV,beq_iff_eq.2 r2⟩,rfl⟩,?_⟩;refine (Cq _ _ hz f2).2 ?_;rw [f1,←h1];exact ZX hp hc nT ug mW sB qw ue (by unfold aA;omega) ((zy.iff k r AK sV).1 (by rw [hr,r2]))
   by_cases ho:x/4=c
   ·cases e0:u0 x with
    |true=>
     obtain ⟨z,z1,z2,z3⟩:=(hS x (by omega)).1 e0;obtain ⟨y,y1,y2⟩:=Fx z z1 z2;exact ⟨y,List.mem_append_left _ y1,by rw [←y2];exact ((Cq _ _ z1 hx).2 z3).symm⟩
    |false=>
     have q1:u0 (4*c)=false->bH mt jn ((4*c:Nat):Int) x-> ∃y∈((List.range (4*(n-1))).filter fun x=>R'.getD x 0==(x:Int)).map (fun k:Nat=>(lu c k).toNat)++((if u0 (4*c) then [] else [4*c])++(if u1 X then [] else [X])),R.getD x 0=R.getD y 0:=fun h0 h1=>
      ⟨4*c,List.mem_append_right _ (List.mem_append_left _ (by rw [h0];simp)),((Cq _ _ (by omega) hx).2 h1).symm⟩
     have q2:u1 X=false->bH mt jn X x-> ∃y∈((List.range (4*(n-1))).filter fun x=>R'.getD x 0==(x:Int)).map (fun k:Nat=>(lu c k).toNat)++((if u0 (4*c) then [] else [4*c])++(if u1 X then [] else [X])),R.getD x 0=R.getD y 0:=fun h0 h1=>
      ⟨X,List.mem_append_right _ (List.mem_append_right _ (by rw [h0];simp)),((Cq _ _ (by omega) hx).2 h1).symm⟩
     have j1:bH mt jn ((4*c:Nat):Int) J:=by
      have:=bH.join (bH.refl (mt:=mt) (jn:=jn) ((4*c:Nat):Int))
      rwa [mW _ (by omega),←k4,hJ,k4] at this
     have j2:bH mt jn X ((4*c+2:Nat):Int):=by
      have:=bH.join (bH.refl (mt:=mt) (jn:=jn) (X:Int))
      rwa [mW _ cX,Kc] at this
     have p1:u0 J=u0 (4*c):=by rw [aY (4*c),hJ]
     have p2:u0 ((4*c+2:Nat):Int)=u0 X:=by rw [aY X,Kc]
     have q3:u0 X=false->bH mt jn X x-> ∃y∈((List.range (4*(n-1))).filter fun x=>R'.getD x 0==(x:Int)).map (fun k:Nat=>(lu c k).toNat)++((if u0 (4*c) then [] else [4*c])++(if u1 X then [] else [X])),R.getD x 0=R.getD y 0:=fun h0 h1=>by
      by_cases e1:u1 X=true
      ·by_cases e2:u0 (4*c)=true
       ·rw [wz,if_pos e2,h0] at e1;cases e1
       ·rcases wT (Bool.eq_false_iff.2 e2) e1 with h2|h2
        ·rw [h0] at h2;cases h2
        ·exact q1 (Bool.eq_false_iff.2 e2) (h2.trans h1)
      ·exact q2 (Bool.eq_false_iff.2 e1) h1
     rcases four x ho with rfl|rfl|rfl|rfl
     ·exact q1 (by rw [k4];exact e0) (.refl _)
     ·exact q1 (by rw [←p1];exact e0) j1
     ·exact q3 e0 (.refl _)
     ·exact q3 (by rw [←p2];exact e0) j2
   ·obtain ⟨y,y1,y2⟩:=Fx x hx ho;exact ⟨y,List.mem_append_left _ y1,y2⟩
 have nS:roots R'=((List.range (4*(n-1))).filter fun x=>R'.getD x 0==(x:Int)).length:=by unfold roots;rw [zy.rep.len,List.countP_eq_length_filter]
 rw [tZ,fin,List.length_append,List.length_append,List.length_map,←nS];cases u0 (4*c)<;>cases u1 X<;>simp<;>omega
end
theorem Zs {m:List Int} {n c:Nat} (hp:jh m n) (hc:c<n) (ch:Nat->Bool) (kb:jh (cv (eJ m (ch c) c (4*n)) c n) (n-1)):
  (pD m n ch:Int)=pD (cv (eJ m (ch c) c (4*n)) c n) (n-1) (Bo ch c)+nt m (ch c) c n:=by
 refine y4j (mt:=fun x=>m.getD x.toNat 0) (jn:=fun x=>aF (ch (x/4).toNat) x) (mt':=fun x=>(cv (eJ m (ch c) c (4*n)) c n).getD x.toNat 0) (jn':=fun x=>aF (Bo ch c (x/4).toNat) x) hp hc (Dg hp.ok hp.inv hp.ne ch) (fun _=>rfl) (fun x=>qc _ x) (fun x hx=>by show aF (ch (x/4).toNat) x=_;rw [hx];rfl) (Dg kb.ok kb.inv kb.ne _) (fun x hx=>?_) (fun y h0 h=>Zt ch h0 h) (HE hp.ok hp.inv hp.ne) (HE kb.ok kb.inv kb.ne)
 obtain ⟨wl,wg⟩:=Sp.ll (E:=eJ m (ch c) c (4*n)) (c:=c) n;rw [if_pos hc] at wl wg;have iX:=hp.ok.1;have e:(lu c (x:Int)).toNat=if x/4<c then x else x+4:=by unfold lu;split<;>split<;>omega
 rw [e];show (cv (eJ m (ch c) c (4*n)) c n).getD (Int.toNat (x:Int)) 0=_;rw [Int.toNat_natCast,wg x hx];unfold c6;rw [Sp.qh (i:=if x/4<c then x else x+4) (by split<;>omega) (4*n) (by omega) (by split<;>omega)];rfl
end Go.Proofs.YtjpbeacamoijhaaGreatDoor
