/- Plain: the circles of a smoothed diagram are those of the states of the diagram in which the crossing is smoothed like that. -/
import Derived.Test.YtphjphpmfflfpaaGreatDoorZw
import Derived.Test.YtphjphpmfflfpaaGreatDoorZk
namespace Go.Proofs.YtphjphpmfflfpaaGreatDoor
set_option linter.unusedSimpArgs false
set_option linter.unusedVariables false
section
variable {m:List Int} {n c:Nat} {b:Bool}
theorem N8: ∀(f:Nat) (w:Int) (i:Nat),i<=f->(∀j,j<i->it (bQ m b) j w/4=(c:Int))->it (bQ m b) i w/4≠(c:Int)->b9 m b c f w=it (bQ m b) i w
 |0,w,i,hi,_,_=>by obtain rfl:i=0:=by omega
                   rfl
 |f+1,w,0,_,_,h=>yu h
 |f+1,w,i+1,hi,h,h'=>by
  have e: ∀j,it (bQ m b) (j+1) w=it (bQ m b) j (bQ m b w):=fun j=>by rw [wu];rfl
  have h0:w/4=(c:Int):=h 0 (by omega);rw [Ec h0,e];rw [e] at h';exact N8 f (bQ m b w) i (by omega) (fun j hj=>by rw [←e];exact h (j+1) (by omega)) h'
theorem Gz: ∀(f:Nat) (w:Int),∃i,i<=f/\(∀j,j<i->it (bQ m b) j w/4=(c:Int))/\b9 m b c f w=it (bQ m b) i w
 |0,w=>⟨0,by omega,fun j hj=>by omega,rfl⟩
 |f+1,w=>by
  by_cases h0:w/4=(c:Int)
  ·obtain ⟨i,h1,h2,h3⟩:=Gz f (bQ m b w);have e: ∀j,it (bQ m b) (j+1) w=it (bQ m b) j (bQ m b w):=fun j=>by rw [wu];rfl
   refine ⟨i+1,by omega,fun j hj=>?_,by rw [Ec h0,e];exact h3⟩;cases j with
   |zero=>exact h0
   |succ j=>rw [e];exact h2 j (by omega)
  ·exact ⟨0,by omega,fun j hj=>by omega,yu h0⟩
def Ke (m:List Int) (b:Bool) (c:Nat) (h:Nat) (y:Int):Prop:= ∃i,(∀j,j<=i->it (bQ m b) j (m.getD h 0)/4=(c:Int))/\(y=it (bQ m b) i (m.getD h 0)\/y=aB b (it (bQ m b) i (m.getD h 0)))
theorem N7: ∀(f:Nat) (w:Int) (u:Int->Bool) (y:Int),thrU m b c f w u y=true↔u y=true\/ ∃i,i<f/\(∀j,j<=i->it (bQ m b) j w/4=(c:Int))/\(y=it (bQ m b) i w\/y=aB b (it (bQ m b) i w))
 |0,w,u,y=>by
  constructor
  ·intro h;exact .inl h
  ·rintro (h|⟨i,hi,_⟩)
   ·exact h
   ·omega
 |f+1,w,u,y=>by
  have e: ∀j,it (bQ m b) (j+1) w=it (bQ m b) j (bQ m b w):=fun j=>by rw [wu];rfl
  by_cases h0:w/4=(c:Int)
  ·rw [ND h0,show m.getD (aB b w).toNat 0=bQ m b w from rfl,N7 f];constructor
   ·rintro (h|⟨i,hi,h1,h2⟩)
    ·simp only [gC,Bool.or_eq_true,beq_iff_eq] at h;rcases h with (h|h)|h
     ·exact .inl h
     ·exact .inr ⟨0,by omega,fun j hj=>by obtain rfl:j=0:=by omega
                                          exact h0, .inl h⟩
     ·exact .inr ⟨0,by omega,fun j hj=>by obtain rfl:j=0:=by omega
                                          exact h0, .inr h⟩
    ·refine .inr ⟨i+1,by omega,fun j hj=>?_,by rw [e];exact h2⟩;cases j with
     |zero=>exact h0
     |succ j=>rw [e];exact h1 j (by omega)
   ·rintro (h|⟨i,hi,h1,h2⟩)
    ·exact .inl (by simp [gC,h])
    ·cases i with
     |zero=>
      refine .inl ?_;simp only [gC,Bool.or_eq_true,beq_iff_eq];rcases h2 with h2|h2
      ·exact .inl (.inr h2)
      ·exact .inr h2
     |succ i=>
      rw [e] at h2;exact .inr ⟨i,by omega,fun j hj=>by rw [←e];exact h1 (j+1) (by omega),h2⟩
  ·rw [Ni h0];constructor
   ·exact .inl
   ·rintro (h|⟨i,_,h1,_⟩)
    ·exact h
    ·exact absurd (h1 0 (by omega)) h0
theorem N6 (hp:dk m n) (hc:c<n) {h:Nat} (hh:h<4*n) (ho:h/4≠c) {i:Nat} (h1: ∀j,j<=i->it (bQ m b) j (m.getD h 0)/4=(c:Int)):i<5:=by
 obtain ⟨k,k1,k2,k3⟩:=Gz (m:=m) (b:=b) (c:=c) 5 (m.getD h 0)
 have:=AJ (b:=b) hp hc hh ho
 rw [k3] at this;by_cases hk:k<=i
 ·exact absurd (h1 k hk) this
 ·omega
theorem Mp (hp:dk m n) (hc:c<n) (y:Int): ∀k,k<=4*n->(gX m b c k y=true↔ ∃h,h<k/\h/4≠c/\Ke m b c h y)
 |0,_=>by
  constructor
  ·intro h;cases h
  ·rintro ⟨h,hh,_⟩;omega
 |k+1,hk=>by
  have ih:=Mp hp hc y k (by omega);simp only [gX]
  split
  ·rename_i e
   rw [ih];constructor
   ·rintro ⟨h,h1,h2⟩;exact ⟨h,by omega,h2⟩
   ·rintro ⟨h,h1,h2,h3⟩
    have:h≠k:=fun e'=>h2 (by rw [e'];exact e)
    exact ⟨h,by omega,h2,h3⟩
  ·rename_i e
   rw [N7,ih];constructor
   ·rintro (⟨h,h1,h2⟩|⟨i,h1,h2,h3⟩)
    ·exact ⟨h,by omega,h2⟩
    ·exact ⟨k,by omega,e,i,h2,h3⟩
   ·rintro ⟨h,h1,h2,i,h3,h4⟩;by_cases e':h=k
    ·subst e';exact .inr ⟨i,N6 hp hc (by omega) h2 h3,h3,h4⟩
    ·exact .inl ⟨h,by omega,h2,i,h3,h4⟩
theorem Au: ∀(f:Nat) (x:Int) (u:Int->Bool) (y:Int),u y=true->kO m b f x u y=true
 |0,_,_,_,h=>h
 |f+1,x,u,y,h=>by
  unfold kO
  split
  ·exact h
  ·exact Au f _ _ _ (by simp [gC,h])
end
def cS (c:Nat) (y:Int):Int:=if (c:Int)<y/4 then y-4 else y
def gD (c:Nat) (x:Int):Int:=if x/4<(c:Int) then x else x+4
theorem Ap (c:Nat) (x:Int):gD c x/4≠(c:Int):=by unfold gD;split<;>omega
theorem Gd (c:Nat) (x:Int):cS c (gD c x)=x:=by unfold cS gD;split<;>split<;>omega
theorem Aa {c:Nat} {y:Int} (h:y/4≠(c:Int)):gD c (cS c y)=y:=by unfold cS gD;split<;>split<;>omega
theorem Ao {n c:Nat} {x:Int} (hx:ax (n-1) x):ax n (gD c x):=by unfold ax at*;unfold gD;split<;>omega
theorem He {n c:Nat} (hc:c<n) {y:Int} (hy:ax n y) (h:y/4≠(c:Int)):ax (n-1) (cS c y):=by unfold ax at*;unfold cS;split<;>omega
def yU (ch:Nat->Bool) (c:Nat) (i:Nat):Bool:=ch (if i<c then i else i+1)
theorem IV {c:Nat} (ch:Nat->Bool) {y:Int} (h0:0<=y) (h:y/4≠(c:Int)):aB (yU ch c (cS c y/4).toNat) (cS c y)=cS c (aB (ch (y/4).toNat) y):=by
 have hd:=jD (ch (y/4).toNat) y;unfold cS yU;rw [hd];by_cases e:(c:Int)<y/4
 ·rw [if_pos e,if_pos e,if_neg (by omega),show ((y-4)/4).toNat+1=(y/4).toNat by omega]
  have:=Wr (ch (y/4).toNat) (y-4) 1
  rw [show y-4+4*((1:Nat):Int)=y by omega] at this;omega
 ·rw [if_neg e,if_neg e,if_pos (by omega)]
section
variable {m m':List Int} {n c:Nat} {b:Bool} {mt jn mt' jn':Int->Int} (hp:bd m n) (hc:c<n) (hi:Inv2 n mt jn) (jt: ∀x,mt x=m.getD x.toNat 0) (o8: ∀x,jn x/4=x/4) (gj: ∀x,x/4=(c:Int)->jn x=aB b x)
theorem bd.dd (hp:bd m n):dk m n:=⟨hp.ok,hp.inv⟩
include gj jt
theorem Gy {h:Nat} {i:Nat} (dr: ∀j,j<i->it (bQ m b) j (m.getD h 0)/4=(c:Int)):aL mt jn h (it (bQ m b) i (m.getD h 0)):=by
 induction i with
 |zero=>
  have h1:=aL.aJ (mt:=mt) (jn:=jn) (.refl (h:Int));rw [jt] at h1;exact h1
 |succ i ih=>
  have h1:=aL.aJ (aL.join (ih fun j hj=>dr j (by omega)));rw [gj _ (dr i (by omega)),jt] at h1;exact h1
theorem JY {h:Nat} {y:Int} (ht:Ke m b c h y):aL mt jn h y:=by
 obtain ⟨i,h1,rfl|rfl⟩:=ht
 ·exact Gy jt gj fun j hj=>h1 j (by omega)
 ·have h2:=aL.join (Gy jt gj (i:=i) fun j hj=>h1 j (by omega));rwa [gj _ (h1 i (Nat.le_refl _))] at h2
variable (jv:Inv2 (n-1) mt' jn') (lL: ∀x:Nat,x<4*(n-1)->mt' x=cS c (b9 m b c 5 (m.getD (gD c x).toNat 0))) (oZ: ∀y:Int,0<=y->y/4≠(c:Int)->jn' (cS c y)=cS c (jn y))
include hp hc hi o8 jv lL oZ
omit hi in
theorem JX {x y:Int} (hx:ax (n-1) x) (h:aL mt' jn' x y):aL mt jn (gD c x) (gD c y):=by
 induction h with
 |refl=>exact .refl _
 | @aJ y h ih=>
   have hy:=h.bP jv hx;have hr:=Ao (c:=c) hy;have ho:=Ap c y;obtain ⟨k,rfl⟩: ∃k:Nat,y=k:=⟨y.toNat,by unfold ax at hy;omega⟩;obtain ⟨u,hu⟩: ∃u:Nat,gD c (k:Int)=u:=⟨(gD c (k:Int)).toNat,by unfold ax at hr;omega⟩;unfold ax at hr hy;rw [hu] at ih ho hr;rw [lL k (by omega),hu,Int.toNat_natCast,Aa (AJ hp.dd hc (by omega) (by omega))]
   obtain ⟨i,_,h2,h3⟩:=Gz (m:=m) (b:=b) (c:=c) 5 (m.getD u 0);rw [h3];exact ih.trans (Gy jt gj h2)
 | @join y h ih=>
   have hy:=h.bP jv hx;have hr:=Ao (c:=c) hy;have ho:=Ap c y;have h1:=oZ (gD c y) hr.1 ho;rw [Gd] at h1;rw [h1,Aa (by rw [o8];exact ho)];exact ih.trans (.join (.refl _))
omit jv in
theorem QP {x v:Int} (hx:ax (n-1) x) (h:aL mt jn (gD c x) v):(v/4≠(c:Int)->aL mt' jn' x (cS c v))/\(v/4=(c:Int)-> ∃z:Nat,z<4*n/\z/4≠c/\aL mt' jn' x (cS c z)/\Ke m b c z v):=by
 have key: ∀z:Nat,z<4*n->z/4≠c->mt' (cS c z)=cS c (b9 m b c 5 (m.getD z 0)):=fun z hz ho=>by
  have hk:=He hc (y:=(z:Int)) (by unfold ax;omega) (by omega);have h1:=Aa (c:=c) (y:=(z:Int)) (by omega);unfold ax at hk;obtain ⟨k,Co⟩: ∃k:Nat,cS c (z:Int)=k:=⟨(cS c (z:Int)).toNat,by omega⟩;rw [Co] at h1 hk⊢;rw [lL k (by omega),h1,Int.toNat_natCast]
 induction h with
 |refl=>exact ⟨fun _=>by rw [Gd];exact .refl _,fun e=>absurd e (Ap c x)⟩
 | @aJ v h ih=>
   have hv:=h.bP hi (Ao hx);have R4:=hi.mr _ hv;by_cases dr:v/4=(c:Int)
   ·obtain ⟨z,z1,z2,z3,i,z4,z5⟩:=ih.2 dr;rcases z5 with z5|z5
    ·cases i with
     |zero=>
      have e:mt v=z:=by rw [z5];show mt (m.getD z 0)=_;rw [jt,hp.inv z z1]
      rw [e];exact ⟨fun _=>z3,fun e=>absurd e (by omega)⟩
     |succ k=>
      have e:mt v=aB b (it (bQ m b) k (m.getD z 0)):=by
       have hk:=z4 k (by omega);have hd:=jD b (it (bQ m b) k (m.getD z 0));rw [z5];show mt (m.getD (aB b (it (bQ m b) k (m.getD z 0))).toNat 0)=_;have h2:=hp.inv (aB b (it (bQ m b) k (m.getD z 0))).toNat (by omega);rw [jt,h2];omega
      rw [e];have Lh:aB b (it (bQ m b) k (m.getD z 0))/4=(c:Int):=by rw [jD];exact z4 k (by omega)
      exact ⟨fun e=>absurd Lh e,fun _=>⟨z,z1,z2,z3,k,fun j hj=>z4 j (by omega), .inr rfl⟩⟩
    ·have e:mt v=it (bQ m b) (i+1) (m.getD z 0):=by rw [z5,jt];rfl
     rw [e];refine ⟨fun ho=>?_,fun uB=>⟨z,z1,z2,z3,i+1,fun j hj=>?_, .inl rfl⟩⟩
     ·have h5:=N6 (b:=b) hp.dd hc z1 z2 z4;have h6:=N8 (c:=c) 5 (m.getD z 0) (i+1) (by omega) (fun j hj=>z4 j (by omega)) ho;have h7:=z3.aJ;rw [key z z1 z2,h6] at h7;exact h7
     ·by_cases dE:j<=i
      ·exact z4 j dE
      ·obtain rfl:j=i+1:=by omega
       exact uB
   ·have h0:=ih.1 dr;unfold ax at hv;obtain ⟨z,rfl⟩: ∃z:Nat,v=z:=⟨v.toNat,by omega⟩;refine ⟨fun ho=>?_,fun uB=>⟨z,by omega,by omega,h0,0,fun j hj=>?_, .inl ?_⟩⟩
    ·have h7:=h0.aJ;rw [key z (by omega) (by omega),yu (by rw [jt] at ho;exact ho)] at h7;rw [jt];exact h7
    ·obtain rfl:j=0:=by omega
     rw [jt] at uB;exact uB
    ·rw [jt];rfl
 | @join v h ih=>
   have hv:=h.bP hi (Ao hx);by_cases dr:v/4=(c:Int)
   ·obtain ⟨z,z1,z2,z3,i,z4,z5⟩:=ih.2 dr;rw [gj _ dr];refine ⟨fun e=>absurd (by rw [jD];exact dr) e,fun _=>⟨z,z1,z2,z3,i,z4,?_⟩⟩;rcases z5 with z5|z5
    ·exact .inr (by rw [z5])
    ·exact .inl (by rw [z5,oA])
   ·have h0:=(ih.1 dr).join;rw [oZ v hv.1 dr] at h0;exact ⟨fun _=>h0,fun e=>absurd (by rw [←o8];exact e) dr⟩
omit jv in
theorem JV {v:Int} (hv:v/4=(c:Int)):gX m b c (4*n) v=true↔ ∃z:Nat,z<4*n/\z/4≠c/\aL mt jn z v:=by
 rw [Mp hp.dd hc v _ (Nat.le_refl _)];constructor
 ·rintro ⟨h,h1,h2,h3⟩;exact ⟨h,h1,h2,JY jt gj h3⟩
 ·rintro ⟨z,z1,z2,z3⟩;have hk:=He hc (y:=(z:Int)) (by unfold ax;omega) (by omega);rw [←Aa (c:=c) (y:=(z:Int)) (by omega)] at z3;obtain ⟨h,h1,h2,_,h4⟩:=(QP hp hc hi jt o8 gj lL oZ hk z3).2 hv;exact ⟨h,h1,h2,h4⟩
end
theorem Ti {R:List Int} {N:Nat} (hR:fG R N) {l:List Nat} (hm: ∀x∈l,x<N) (hp:l.Pairwise fun x y=>R.getD x 0≠R.getD y 0) (b6: ∀x,x<N-> ∃y∈l,R.getD x 0=R.getD y 0):roots R=l.length:=by
 have h1:(l.map fun x=>(R.getD x 0).toNat).Nodup:=by
  rw [List.nodup_iff_pairwise_ne,List.pairwise_map];refine hp.imp_of_mem fun ha hb h e=>h ?_
  have:=hR.bP _ (hm _ ha)
  have:=hR.bP _ (hm _ hb)
  omega
 have h2:roots R=((List.range N).filter fun x=>R.getD x 0==(x:Int)).length:=by unfold roots;rw [hR.len,List.countP_eq_length_filter]
 have h3:((List.range N).filter fun x=>R.getD x 0==(x:Int)).Nodup:=List.nodup_range.filter _;rw [h2];refine Nat.le_antisymm ?_ ?_
 ·have:=q8 h3 (k:=l.map fun x=>(R.getD x 0).toNat) fun x hx=>?_
  ·rwa [List.length_map] at this
  ·obtain ⟨h4,h5⟩:=List.mem_filter.1 hx;obtain ⟨y,h6,h7⟩:=b6 x (List.mem_range.1 h4);have h8:=eq_of_beq h5;exact List.mem_map.2 ⟨y,h6,by omega⟩
 ·have:=q8 h1 (k:=(List.range N).filter fun x=>R.getD x 0==(x:Int)) fun x hx=>?_
  ·rwa [List.length_map] at this
  ·obtain ⟨y,h6,h7⟩:=List.mem_map.1 hx;have h8:=hR.bP y (hm y h6);have h9:=hR.idem y (hm y h6);rw [h7] at h9;exact List.mem_filter.2 ⟨List.mem_range.2 (by omega),by rw [h9];exact beq_iff_eq.2 (by omega)⟩
section
variable {m m':List Int} {n c:Nat} {b:Bool} {mt jn mt' jn':Int->Int} (hp:bd m n) (hc:c<n) (hi:Inv2 n mt jn) (jt: ∀x,mt x=m.getD x.toNat 0) (o8: ∀x,jn x/4=x/4) (gj: ∀x,x/4=(c:Int)->jn x=aB b x)
include jt gj
theorem Mo: ∀(f:Nat) (x:Int) (u:Int->Bool) (y:Int),x/4=(c:Int)->(∀z,z/4=(c:Int)->u z=false->bQ m b z/4=(c:Int))->kO m b f x u y=true->u y=true\/aL mt jn x y
 |0,_,_,_,_,_,h=> .inl h
 |f+1,x,u,y,hx,hu,h=>by
  cases e:u x with
  |true=>rw [Qs e] at h;exact .inl h
  |false=>
   rw [Dk e] at h;have s1:aL mt jn x (aB b x):=by have:=aL.join (aL.refl (mt:=mt) (jn:=jn) x);rwa [gj _ hx] at this
   rcases Mo f _ _ y (hu x hx e) (fun z hz h'=>hu z hz (by simp only [gC,Bool.or_eq_false_iff] at h';exact h'.1.1)) h with h1|h1
   ·simp only [gC,Bool.or_eq_true,beq_iff_eq] at h1;rcases h1 with (h1|rfl)|rfl
    ·exact .inl h1
    ·exact .inr (.refl _)
    ·exact .inr s1
   ·have s2:=s1.aJ;rw [jt] at s2;exact .inr (s2.trans h1)
variable (jv:Inv2 (n-1) mt' jn') (lL: ∀x:Nat,x<4*(n-1)->mt' x=cS c (b9 m b c 5 (m.getD (gD c x).toNat 0))) (oZ: ∀y:Int,0<=y->y/4≠(c:Int)->jn' (cS c y)=cS c (jn y))
include hp hc hi o8 jv lL oZ
theorem Vl {R R':List Int} (hR:dY n mt jn R) (CS:dY (n-1) mt' jn' R'):(roots R:Int)=roots R'+jl m b c n:=by
 obtain ⟨u0,zi⟩: ∃u,u=gX m b c (4*n):=⟨_,rfl⟩;have hS: ∀v:Int,v/4=(c:Int)->(u0 v=true↔ ∃z:Nat,z<4*n/\z/4≠c/\aL mt jn z v):=fun v hv=>by rw [zi];exact JV hp hc hi jt o8 gj lL oZ hv
 have bC:wE b u0:=by rw [zi];exact Ta _
 have dr: ∀z:Int,z/4=(c:Int)->u0 z=false->bQ m b z/4=(c:Int):=fun z hz h=>Rf hp.dd hc hz (by rw [←zi];exact h);obtain ⟨X,hX⟩: ∃X:Nat,X=if b then 4*c+1 else 4*c+3:=⟨_,rfl⟩;have YF:(if b then 4*(c:Int)+1 else 4*(c:Int)+3)=(X:Int):=by rw [hX];split<;>simp
 obtain ⟨J,hJ,SD⟩: ∃J:Nat,aB b (4*(c:Int))=J/\J=if b then 4*c+3 else 4*c+1:=by
  obtain ⟨a1,_,_,_,a5,_,_,_⟩:=zM c;refine ⟨_,?_,rfl⟩;rw [show 4*(c:Int)=((4*c:Nat):Int) by omega];cases b with
  |true=>rw [a1];rfl
  |false=>rw [a5];rfl
 have FH:aB b (X:Int)=((4*c+2:Nat):Int):=by
  obtain ⟨_,a2,_,_,_,_,_,a8⟩:=zM c;rw [hX];cases b with
  |true=>exact a2
  |false=>exact a8
 have hXJ:X≠J/\4*c<X/\X<4*c+4/\4*c<J/\J<4*c+4/\X≠4*c+2/\J≠4*c+2:=by rw [hX,SD];split<;>omega
 have four: ∀x:Nat,x/4=c->x=4*c\/x=J\/x=X\/x=4*c+2:=fun x hx=>by rw [hX,SD];split<;>omega
 have c4:(4*(c:Int))/4=(c:Int):=by omega
 have cX:(X:Int)/4=(c:Int):=by omega
 have k4:(4*(c:Int))=((4*c:Nat):Int):=by omega
 obtain ⟨u1,rH⟩: ∃u,u=if u0 (4*c) then u0 else kO m b 5 (4*c) u0:=⟨_,rfl⟩;have uu:u1 X=false->u0 X=false:=fun h=>by
  rw [rH] at h;cases e:u0 X with
  |false=>rfl
  |true=>
   split at h
   ·rw [e] at h;cases h
   ·rw [Au 5 _ _ _ e] at h;cases h
 have Fu:u0 (4*c)=false->u1 X=true->u0 X=true\/aL mt jn ((4*c:Nat):Int) X:=fun h0 h1=>by
  rw [rH,if_neg (by rw [h0];simp)] at h1
  have:=Mo jt gj 5 _ u0 _ c4 dr h1
  rwa [←k4]
 have La:u0 (4*c)=false->aL mt jn ((4*c:Nat):Int) X->u1 X=true:=fun h0 h1=>by
  rw [rH,if_neg (by rw [h0];simp),Dk h0];have hh:=dr _ c4 h0;obtain ⟨h,Sd⟩: ∃h:Nat,bQ m b (4*c)=h:=⟨(bQ m b (4*c)).toNat,by omega⟩;rw [Sd] at hh⊢;rw [hJ];have K8:m.getD J 0=h:=by rw [←Sd];unfold bQ;rw [hJ,Int.toNat_natCast]
  have RQ:wE b (gC u0 (4*c) J):=by rw [←hJ];exact Py bC _
  have key:gC u0 (4*c) J h=false->(h=X\/h=4*c+2)->kO m b 4 h (gC u0 (4*c) J) X=true:=fun e1 e2=>by
   rw [Dk e1];refine Au 3 _ _ _ ?_;rcases e2 with rfl|rfl
   ·simp [gC]
   ·rw [←FH,oA];simp [gC]
  rcases four h (by omega) with e|e|e|e
  ·exfalso;have oh: ∀y,aL mt jn ((4*c:Nat):Int) y->y=((4*c:Nat):Int)\/y=J:=fun y hy=>by
    have h2:=hp.inv J (by omega);rw [K8,e,Int.toNat_natCast] at h2
    induction hy with
    |refl=>exact .inl rfl
    |aJ _ ih=>
     rcases ih with rfl|rfl
     ·right;rw [jt,Int.toNat_natCast];exact h2
     ·left;rw [jt,Int.toNat_natCast,K8,e]
    |join _ ih=>
     rcases ih with rfl|rfl
     ·right;rw [gj _ (by omega),←k4];exact hJ
     ·left;rw [gj _ (by omega),←hJ,oA];exact k4
   rcases oh _ h1 with e'|e'<;>omega
  ·exact absurd (by rw [K8,e]) (hp.ne J (by omega))
  ·cases e1:gC u0 (4*c) J h with
   |true=>exact Au 4 _ _ _ (by rw [←e];exact e1)
   |false=>exact key e1 (.inl e)
  ·cases e1:gC u0 (4*c) J h with
   |true=>refine Au 4 _ _ _ ?_;rw [RQ,FH,←e];exact e1
   |false=>exact key e1 (.inr e)
 have w8:jl m b c n=(if u0 (4*c) then 0 else 1)+(if u1 X then 0 else 1):=by
  unfold jl;simp only;rw [YF,rH,zi]
 have xM: ∀x y:Nat,x<4*n->y<4*n->(R.getD x 0=R.getD y 0↔aL mt jn x y):=hR.iff;have A5: ∀k,k<4*(n-1)->(((gD c k).toNat:Nat):Int)=gD c k/\(gD c k).toNat<4*n/\(gD c k).toNat/4≠c:=fun k hk=>by
  have h1:=Ao (n:=n) (c:=c) (x:=(k:Int)) (by unfold ax;omega);have h2:=Ap c k;unfold ax at h1;omega
 have k7: ∀k,k<4*(n-1)-> ∀v:Nat,v/4=c->v<4*n->u0 v=false->R.getD (gD c k).toNat 0≠R.getD v 0:=fun k hk v hv Fc h0 e=>by
  obtain ⟨g1,g2,g3⟩:=A5 k hk
  have:=(hS v (by omega)).2 ⟨_,g2,g3,(xM _ _ g2 Fc).1 e⟩
  rw [h0] at this;cases this
 have fin:roots R=(((List.range (4*(n-1))).filter fun x=>R'.getD x 0==(x:Int)).map (fun k:Nat=>(gD c k).toNat)++((if u0 (4*c) then [] else [4*c])++(if u1 X then [] else [X]))).length:=by
  refine Ti hR.rep (fun x hx=>?_) ?_ (fun x hx=>?_)
  ·rcases List.mem_append.1 hx with h|h
   ·obtain ⟨k,h1,rfl⟩:=List.mem_map.1 h;exact (A5 k (List.mem_range.1 (List.mem_filter.1 h1).1)).2.1
   ·rcases List.mem_append.1 h with h|h
    ·split at h
     ·cases h
     ·obtain rfl:=List.mem_singleton.1 h;omega
    ·split at h
     ·cases h
     ·obtain rfl:=List.mem_singleton.1 h;omega
  ·refine List.pairwise_append.2 ⟨?_,List.pairwise_append.2 ⟨?_,?_,fun x hx y hy e=>?_⟩,fun x hx y hy=>?_⟩
   ·rw [List.pairwise_map];refine (List.nodup_iff_pairwise_ne.1 (List.nodup_range.filter _)).imp_of_mem fun {a b} ha hb aw e=>aw ?_;obtain ⟨a1,a2⟩:=List.mem_filter.1 ha;obtain ⟨b1,b2⟩:=List.mem_filter.1 hb;have a1:=List.mem_range.1 a1;have b1:=List.mem_range.1 b1;obtain ⟨g1,g2,g3⟩:=A5 a a1;obtain ⟨f1,f2,f3⟩:=A5 b b1;have h1:=(xM _ _ g2 f2).1 e;rw [g1,f1] at h1
    have h2:=(QP hp hc hi jt o8 gj lL oZ (by unfold ax;omega) h1).1 (Ap c b);rw [Gd] at h2;have h3:=(CS.iff a b a1 b1).2 h2;have a2:=eq_of_beq a2;have b2:=eq_of_beq b2;omega
   ·split<;>simp
   ·split<;>simp
   ·split at hx
    ·cases hx
    ·split at hy
     ·cases hy
     ·rename_i h0 h1
      obtain rfl:=List.mem_singleton.1 hx;obtain rfl:=List.mem_singleton.1 hy;exact h1 (La (Bool.eq_false_iff.2 h0) ((xM _ _ (by omega) (by omega)).1 e))
   ·obtain ⟨k,h1,rfl⟩:=List.mem_map.1 hx;have hk:=List.mem_range.1 (List.mem_filter.1 h1).1;rcases List.mem_append.1 hy with h|h
    ·split at h
     ·cases h
     ·rename_i h0
      obtain rfl:=List.mem_singleton.1 h;exact k7 k hk _ (by omega) (by omega) (by rw [←k4];exact Bool.eq_false_iff.2 h0)
    ·split at h
     ·cases h
     ·rename_i h0
      obtain rfl:=List.mem_singleton.1 h;exact k7 k hk _ (by omega) (by omega) (uu (Bool.eq_false_iff.2 h0))
  ·have Br: ∀z:Nat,z<4*n->z/4≠c-> ∃y∈((List.range (4*(n-1))).filter fun x=>R'.getD x 0==(x:Int)).map (fun k:Nat=>(gD c k).toNat),R.getD z 0=R.getD y 0:=fun z hz ho=>by
    have hk:=He hc (y:=(z:Int)) (by unfold ax;omega) (by omega);have h1:=Aa (c:=c) (y:=(z:Int)) (by omega);unfold ax at hk;obtain ⟨k,Co⟩: ∃k:Nat,cS c (z:Int)=k:=⟨(cS c (z:Int)).toNat,by omega⟩;rw [Co] at h1 hk;have nh:k<4*(n-1):=by omega
    have r1:=CS.rep.bP k nh;have r2:=CS.rep.idem k nh;obtain ⟨r,hr⟩: ∃r:Nat,R'.getD k 0=r:=⟨(R'.getD k 0).toNat,by omega⟩;rw [hr] at r1 r2;rw [Int.toNat_natCast] at r2;have nZ:r<4*(n-1):=by omega
    obtain ⟨f1,f2,f3⟩:=A5 r nZ;refine ⟨(gD c r).toNat,List.mem_map.2 ⟨r,List.mem_filter.2 ⟨List.mem_range.2 nZ,beq_iff_eq.2 r2⟩,rfl⟩,?_⟩;refine (xM _ _ hz f2).2 ?_;rw [f1,←h1];exact JX hp hc jt o8 gj jv lL oZ (by unfold ax;omega) ((CS.iff k r nh nZ).1 (by rw [hr,r2]))
   by_cases ho:x/4=c
   ·cases e0:u0 x with
    |true=>
     obtain ⟨z,z1,z2,z3⟩:=(hS x (by omega)).1 e0;obtain ⟨y,y1,y2⟩:=Br z z1 z2;exact ⟨y,List.mem_append_left _ y1,by rw [←y2];exact ((xM _ _ z1 hx).2 z3).symm⟩
    |false=>
     have q1:u0 (4*c)=false->aL mt jn ((4*c:Nat):Int) x-> ∃y∈((List.range (4*(n-1))).filter fun x=>R'.getD x 0==(x:Int)).map (fun k:Nat=>(gD c k).toNat)++((if u0 (4*c) then [] else [4*c])++(if u1 X then [] else [X])),R.getD x 0=R.getD y 0:=fun h0 h1=>
      ⟨4*c,List.mem_append_right _ (List.mem_append_left _ (by rw [h0];simp)),((xM _ _ (by omega) hx).2 h1).symm⟩
     have q2:u1 X=false->aL mt jn X x-> ∃y∈((List.range (4*(n-1))).filter fun x=>R'.getD x 0==(x:Int)).map (fun k:Nat=>(gD c k).toNat)++((if u0 (4*c) then [] else [4*c])++(if u1 X then [] else [X])),R.getD x 0=R.getD y 0:=fun h0 h1=>
      ⟨X,List.mem_append_right _ (List.mem_append_right _ (by rw [h0];simp)),((xM _ _ (by omega) hx).2 h1).symm⟩
     have j1:aL mt jn ((4*c:Nat):Int) J:=by
      have:=aL.join (aL.refl (mt:=mt) (jn:=jn) ((4*c:Nat):Int))
      rwa [gj _ (by omega),←k4,hJ,k4] at this
     have j2:aL mt jn X ((4*c+2:Nat):Int):=by
      have:=aL.join (aL.refl (mt:=mt) (jn:=jn) (X:Int))
      rwa [gj _ cX,FH] at this
     have p1:u0 J=u0 (4*c):=by rw [bC (4*c),hJ]
     have p2:u0 ((4*c+2:Nat):Int)=u0 X:=by rw [bC X,FH]
     have q3:u0 X=false->aL mt jn X x-> ∃y∈((List.range (4*(n-1))).filter fun x=>R'.getD x 0==(x:Int)).map (fun k:Nat=>(gD c k).toNat)++((if u0 (4*c) then [] else [4*c])++(if u1 X then [] else [X])),R.getD x 0=R.getD y 0:=fun h0 h1=>by
      by_cases e1:u1 X=true
      ·by_cases e2:u0 (4*c)=true
       ·rw [rH,if_pos e2,h0] at e1;cases e1
       ·rcases Fu (Bool.eq_false_iff.2 e2) e1 with h2|h2
        ·rw [h0] at h2;cases h2
        ·exact q1 (Bool.eq_false_iff.2 e2) (h2.trans h1)
      ·exact q2 (Bool.eq_false_iff.2 e1) h1
     rcases four x ho with rfl|rfl|rfl|rfl
     ·exact q1 (by rw [k4];exact e0) (.refl _)
     ·exact q1 (by rw [←p1];exact e0) j1
     ·exact q3 e0 (.refl _)
     ·exact q3 (by rw [←p2];exact e0) j2
   ·obtain ⟨y,y1,y2⟩:=Br x hx ho;exact ⟨y,List.mem_append_left _ y1,y2⟩
 have iN:roots R'=((List.range (4*(n-1))).filter fun x=>R'.getD x 0==(x:Int)).length:=by unfold roots;rw [CS.rep.len,List.countP_eq_length_filter]
 rw [w8,fin,List.length_append,List.length_append,List.length_map,←iN];cases u0 (4*c)<;>cases u1 X<;>simp<;>omega
end
theorem IU {m:List Int} {n c:Nat} (hp:bd m n) (hc:c<n) (ch:Nat->Bool) (df:bd (bO (cV m (ch c) c (4*n)) c n) (n-1)):
  (bF m n ch:Int)=bF (bO (cV m (ch c) c (4*n)) c n) (n-1) (yU ch c)+jl m (ch c) c n:=by
 refine Vl (mt:=fun x=>m.getD x.toNat 0) (jn:=fun x=>aB (ch (x/4).toNat) x) (mt':=fun x=>(bO (cV m (ch c) c (4*n)) c n).getD x.toNat 0) (jn':=fun x=>aB (yU ch c (x/4).toNat) x) hp hc (qt hp.ok hp.inv hp.ne ch) (fun _=>rfl) (fun x=>jD _ x) (fun x hx=>by show aB (ch (x/4).toNat) x=_;rw [hx];rfl) (qt df.ok df.inv df.ne _) (fun x hx=>?_) (fun y h0 h=>IV ch h0 h) (yc hp.ok hp.inv hp.ne) (yc df.ok df.inv df.ne)
 obtain ⟨wl,wg⟩:=Sp.jh (E:=cV m (ch c) c (4*n)) (c:=c) n;rw [if_pos hc] at wl wg;have fB:=hp.ok.1;have e:(gD c (x:Int)).toNat=if x/4<c then x else x+4:=by unfold gD;split<;>split<;>omega
 rw [e];show (bO (cV m (ch c) c (4*n)) c n).getD (Int.toNat (x:Int)) 0=_;rw [Int.toNat_natCast,wg x hx];unfold cb;rw [Sp.oM (i:=if x/4<c then x else x+4) (by split<;>omega) (4*n) (by omega) (by split<;>omega)];rfl
set_option linter.unusedSectionVars false
namespace Sp
open Classical
section
variable {N:Nat} {si al kq:Nat->Nat}
end
end Sp
structure Rel (n:Nat) (f g:Nat->Nat) (m m':List Int):Prop where
 fl: ∀x,x<4*n->f x<4*n
 gl: ∀x,x<4*n->g x<4*n
 gf: ∀x,x<4*n->g (f x)=x
 fg: ∀x,x<4*n->f (g x)=x
 len:m'.length=4*n
 aJ: ∀x,x<4*n->m'.getD (f x) 0=(f (m.getD x 0).toNat:Int)
section
variable {n:Nat} {f g:Nat->Nat} {m m':List Int}
theorem Rel.pj (h:Rel n f g m m') (hp:bd m n) {y:Nat} (hy:y<4*n):m'.getD y 0=(f (m.getD (g y) 0).toNat:Int):=by
 have:=h.aJ (g y) (h.gl y hy)
 rw [h.fg y hy] at this;exact this
theorem Rel.pm (h:Rel n f g m m') (hp:bd m n):bd m' n:=by
 have mr: ∀x,x<4*n->(m.getD x 0).toNat<4*n/\0<=m.getD x 0:=fun x hx=>by have:=hp.ok.2 x hx;omega
 refine ⟨⟨h.len,fun y hy=>?_⟩,fun y hy=>?_,fun y hy=>?_⟩
 ·rw [h.pj hp hy]
  have:=h.fl _ (mr _ (h.gl y hy)).1
  omega
 ·have hg:=h.gl y hy;rw [h.pj hp hy,Int.toNat_natCast,h.aJ _ (mr _ hg).1,hp.inv _ hg,Int.toNat_natCast,h.fg y hy]
 ·rw [h.pj hp hy];intro e;have hg:=h.gl y hy;have e2:f (m.getD (g y) 0).toNat=y:=by omega
  have e3:=congrArg g e2;rw [h.gf _ (mr _ hg).1] at e3
  have:=(mr _ hg).2
  exact hp.ne _ hg (by omega)
theorem P5 {R L:List Int} (hR:fG R (4*n)) (hL:fG L (4*n)) (q:Nat->Nat) (hq: ∀x,x<4*n->q x<4*n) (h: ∀x y:Nat,x<4*n->y<4*n->R.getD (q x) 0=R.getD (q y) 0->L.getD x 0=L.getD y 0):roots L<=roots R:=by
 unfold roots;rw [List.countP_eq_length_filter,List.countP_eq_length_filter];refine Jj (List.Nodup.sublist List.filter_sublist List.nodup_range) (fun x r=>R.getD (q x) 0=(r:Int)) (fun x hx=>?_) (fun x x' r hx iM h1 h2=>?_)
 ·simp only [List.mem_filter,List.mem_range,hL.len] at hx;have r1:=hR.bP (q x) (hq x (by omega));refine ⟨(R.getD (q x) 0).toNat,?_,by omega⟩;simp only [List.mem_filter,List.mem_range,hR.len,beq_iff_eq];refine ⟨by omega,?_⟩;rw [hR.idem _ (hq x (by omega))];omega
 ·simp only [List.mem_filter,List.mem_range,hL.len,beq_iff_eq] at hx iM
  have:=h x x' (by omega) (by omega) (h1.trans h2.symm)
  omega
theorem JU (h:Rel n f g m m') (hp:bd m n) {ch ch':Nat->Bool} (hj: ∀x,x<4*n->aB (ch' (f x/4)) (f x)=(f (aB (ch (x/4)) x).toNat:Int)):bF m' n ch'=bF m n ch:=by
 have df:=h.pm hp;have H:=yc (ch:=ch) hp.ok hp.inv hp.ne;have H':=yc (ch:=ch') df.ok df.inv df.ne;have hi:=qt hp.ok hp.inv hp.ne ch;have jv:=qt df.ok df.inv df.ne ch';have dv: ∀x:Nat,((x:Int)/4).toNat=x/4:=fun x=>by omega
 have toNat: ∀(x:Nat) (y:Int),x<4*n->aL (fun x=>m.getD x.toNat 0) (fun x=>aB (ch (x/4).toNat) x) x y->aL (fun x=>m'.getD x.toNat 0) (fun x=>aB (ch' (x/4).toNat) x) (f x:Nat) (f y.toNat:Nat):=fun x y hx k=>by
  induction k with
  |refl=>rw [Int.toNat_natCast];exact .refl _
  | @aJ z k ih=>
    have hz:=k.bP hi (by unfold ax;omega);unfold ax at hz;have e1:=aL.aJ ih;simp only [Int.toNat_natCast] at e1;rw [h.aJ _ (by omega)] at e1;exact e1
  | @join z k ih=>
    have hz:=k.bP hi (by unfold ax;omega);unfold ax at hz;have e1:=aL.join ih;rw [dv,hj _ (by omega)] at e1;rw [show ((z/4).toNat)=z.toNat/4 by omega];rw [show ((z.toNat:Nat):Int)=z by omega] at e1;exact e1
 have back: ∀(x:Nat) (y:Int),x<4*n->aL (fun x=>m'.getD x.toNat 0) (fun x=>aB (ch' (x/4).toNat) x) x y->aL (fun x=>m.getD x.toNat 0) (fun x=>aB (ch (x/4).toNat) x) (g x:Nat) (g y.toNat:Nat):=fun x y hx k=>by
  induction k with
  |refl=>rw [Int.toNat_natCast];exact .refl _
  | @aJ z k ih=>
    have hz:=k.bP jv (by unfold ax;omega);unfold ax at hz;have e1:=aL.aJ ih;simp only [Int.toNat_natCast] at e1;have hg:=h.gl z.toNat (by omega);have mr:=hp.ok.2 _ hg;have e2:=h.pj hp (y:=z.toNat) (by omega);rw [e2,Int.toNat_natCast,h.gf _ (by omega),show (((m.getD (g z.toNat) 0).toNat:Nat):Int)=m.getD (g z.toNat) 0 by omega];exact e1
  | @join z k ih=>
    have hz:=k.bP jv (by unfold ax;omega);unfold ax at hz;have e1:=aL.join ih;have hg:=h.gl z.toNat (by omega);have e2:=hj (g z.toNat) hg;rw [h.fg _ (by omega)] at e2;have jr:=hi.jr (g z.toNat:Nat) (by unfold ax;omega);unfold ax at jr;rw [dv] at jr e1;rw [show ((z/4).toNat)=z.toNat/4 by omega,show z=((z.toNat:Nat):Int) by omega]
    rw [Int.toNat_natCast,e2,Int.toNat_natCast,h.gf _ (by omega),show (((aB (ch (g z.toNat/4)) (g z.toNat:Nat)).toNat:Nat):Int)=aB (ch (g z.toNat/4)) (g z.toNat:Nat) by omega];exact e1
 refine Nat.le_antisymm (P5 H.rep H'.rep g h.gl fun x y hx hy e=>?_) (P5 H'.rep H.rep f h.fl fun x y hx hy e=>?_)
 ·have k:=toNat _ _ (h.gl x hx) ((H.iff _ _ (h.gl x hx) (h.gl y hy)).1 e);rw [Int.toNat_natCast,h.fg x hx,h.fg y hy] at k;exact (H'.iff x y hx hy).2 k
 ·have k:=back _ _ (h.fl x hx) ((H'.iff _ _ (h.fl x hx) (h.fl y hy)).1 e);rw [Int.toNat_natCast,h.gf x hx,h.gf y hy] at k;exact (H.iff x y hx hy).2 k
end
end Go.Proofs.YtphjphpmfflfpaaGreatDoor
