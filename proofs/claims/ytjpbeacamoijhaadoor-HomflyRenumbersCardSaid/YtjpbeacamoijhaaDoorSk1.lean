/- Plain: the circles of a smoothed diagram are those of the states of the diagram in which the crossing is smoothed like that. -/
import Derived.Test.YtjpbeacamoijhaaDoorZn
import Derived.Test.YtjpbeacamoijhaaDoorSr
namespace Go.Proofs.YtjpbeacamoijhaaDoor
set_option linter.unusedSimpArgs false
set_option linter.unusedVariables false
section
variable {m:List Int} {n c:Nat} {b:Bool}
theorem yrz: ∀(f:Nat) (w:Int) (i:Nat),i<=f->(∀j,j<i->it (nxC m b) j w/4=(c:Int))->it (nxC m b) i w/4≠(c:Int)->thrX m b c f w=it (nxC m b) i w
 |0,w,i,hi,_,_=>by obtain rfl:i=0:=by omega
                   rfl
 |f+1,w,0,_,_,h=>yfl h
 |f+1,w,i+1,hi,h,h'=>by
  have e: ∀j,it (nxC m b) (j+1) w=it (nxC m b) j (nxC m b w):=fun j=>by rw [ygy];rfl
  have h0:w/4=(c:Int):=h 0 (by omega)
  rw [yhu h0,e]
  rw [e] at h'
  exact yrz f (nxC m b w) i (by omega) (fun j hj=>by rw [←e];exact h (j+1) (by omega)) h'
theorem yoa: ∀(f:Nat) (w:Int),∃i,i<=f/\(∀j,j<i->it (nxC m b) j w/4=(c:Int))/\thrX m b c f w=it (nxC m b) i w
 |0,w=>⟨0,by omega,fun j hj=>by omega,rfl⟩
 |f+1,w=>by
  by_cases h0:w/4=(c:Int)
  ·obtain ⟨i,h1,h2,h3⟩:=yoa f (nxC m b w)
   have e: ∀j,it (nxC m b) (j+1) w=it (nxC m b) j (nxC m b w):=fun j=>by rw [ygy];rfl
   refine ⟨i+1,by omega,fun j hj=>?_,by rw [yhu h0,e];exact h3⟩
   cases j with
   |zero=>exact h0
   |succ j=>rw [e];exact h2 j (by omega)
  ·exact ⟨0,by omega,fun j hj=>by omega,yfl h0⟩
def onT (m:List Int) (b:Bool) (c:Nat) (h:Nat) (y:Int):Prop:= ∃i,(∀j,j<=i->it (nxC m b) j (m.getD h 0)/4=(c:Int))/\(y=it (nxC m b) i (m.getD h 0)\/y=jnB b (it (nxC m b) i (m.getD h 0)))
theorem yr0: ∀(f:Nat) (w:Int) (u:Int->Bool) (y:Int),thrU m b c f w u y=true↔u y=true\/ ∃i,i<f/\(∀j,j<=i->it (nxC m b) j w/4=(c:Int))/\(y=it (nxC m b) i w\/y=jnB b (it (nxC m b) i w))
 |0,w,u,y=>by
  constructor
  ·intro h;exact .inl h
  ·rintro (h|⟨i,hi,_⟩)
   ·exact h
   ·omega
 |f+1,w,u,y=>by
  have e: ∀j,it (nxC m b) (j+1) w=it (nxC m b) j (nxC m b w):=fun j=>by rw [ygy];rfl
  by_cases h0:w/4=(c:Int)
  ·rw [yt3 h0,show m.getD (jnB b w).toNat 0=nxC m b w from rfl,yr0 f]
   constructor
   ·rintro (h|⟨i,hi,h1,h2⟩)
    ·simp only [usd,Bool.or_eq_true,beq_iff_eq] at h
     rcases h with (h|h)|h
     ·exact .inl h
     ·exact .inr ⟨0,by omega,fun j hj=>by obtain rfl:j=0:=by omega
                                          exact h0, .inl h⟩
     ·exact .inr ⟨0,by omega,fun j hj=>by obtain rfl:j=0:=by omega
                                          exact h0, .inr h⟩
    ·refine .inr ⟨i+1,by omega,fun j hj=>?_,by rw [e];exact h2⟩
     cases j with
     |zero=>exact h0
     |succ j=>rw [e];exact h1 j (by omega)
   ·rintro (h|⟨i,hi,h1,h2⟩)
    ·exact .inl (by simp [usd,h])
    ·cases i with
     |zero=>
      refine .inl ?_
      simp only [usd,Bool.or_eq_true,beq_iff_eq]
      rcases h2 with h2|h2
      ·exact .inl (.inr h2)
      ·exact .inr h2
     |succ i=>
      rw [e] at h2
      exact .inr ⟨i,by omega,fun j hj=>by rw [←e];exact h1 (j+1) (by omega),h2⟩
  ·rw [yt4 h0]
   constructor
   ·exact .inl
   ·rintro (h|⟨i,_,h1,_⟩)
    ·exact h
    ·exact absurd (h1 0 (by omega)) h0
theorem yr1 (hp:yav m n) (hc:c<n) {h:Nat} (hh:h<4*n) (ho:h/4≠c) {i:Nat} (h1: ∀j,j<=i->it (nxC m b) j (m.getD h 0)/4=(c:Int)):i<5:=by
 obtain ⟨k,k1,k2,k3⟩:=yoa (m:=m) (b:=b) (c:=c) 5 (m.getD h 0)
 have:=yfm (b:=b) hp hc hh ho
 rw [k3] at this
 by_cases hk:k<=i
 ·exact absurd (h1 k hk) this
 ·omega
theorem yux (hp:yav m n) (hc:c<n) (y:Int): ∀k,k<=4*n->(smU m b c k y=true↔ ∃h,h<k/\h/4≠c/\onT m b c h y)
 |0,_=>by
  constructor
  ·intro h;cases h
  ·rintro ⟨h,hh,_⟩;omega
 |k+1,hk=>by
  have ih:=yux hp hc y k (by omega)
  simp only [smU]
  split
  ·rename_i e
   rw [ih]
   constructor
   ·rintro ⟨h,h1,h2⟩;exact ⟨h,by omega,h2⟩
   ·rintro ⟨h,h1,h2,h3⟩
    have:h≠k:=fun e'=>h2 (by rw [e'];exact e)
    exact ⟨h,by omega,h2,h3⟩
  ·rename_i e
   rw [yr0,ih]
   constructor
   ·rintro (⟨h,h1,h2⟩|⟨i,h1,h2,h3⟩)
    ·exact ⟨h,by omega,h2⟩
    ·exact ⟨k,by omega,e,i,h2,h3⟩
   ·rintro ⟨h,h1,h2,i,h3,h4⟩
    by_cases e':h=k
    ·subst e'
     exact .inr ⟨i,yr1 hp hc (by omega) h2 h3,h3,h4⟩
    ·exact .inl ⟨h,by omega,h2,i,h3,h4⟩
theorem yg4: ∀(f:Nat) (x:Int) (u:Int->Bool) (y:Int),u y=true->lpU m b f x u y=true
 |0,_,_,_,h=>h
 |f+1,x,u,y,h=>by
  unfold lpU
  split
  ·exact h
  ·exact yg4 f _ _ _ (by simp [usd,h])
end
def cutK (c:Nat) (y:Int):Int:=if (c:Int)<y/4 then y-4 else y
def upK (c:Nat) (x:Int):Int:=if x/4<(c:Int) then x else x+4
theorem yh0 (c:Nat) (x:Int):upK c x/4≠(c:Int):=by unfold upK;split<;>omega
theorem yr2 (c:Nat) (x:Int):cutK c (upK c x)=x:=by unfold cutK upK;split<;>split<;>omega
theorem yj0 {c:Nat} {y:Int} (h:y/4≠(c:Int)):upK c (cutK c y)=y:=by unfold cutK upK;split<;>split<;>omega
theorem yh1 {n c:Nat} {x:Int} (hx:InR (n-1) x):InR n (upK c x):=by unfold InR at*;unfold upK;split<;>omega
theorem yma {n c:Nat} (hc:c<n) {y:Int} (hy:InR n y) (h:y/4≠(c:Int)):InR (n-1) (cutK c y):=by unfold InR at*;unfold cutK;split<;>omega
def wiC (ch:Nat->Bool) (c:Nat) (i:Nat):Bool:=ch (if i<c then i else i+1)
theorem y76 {c:Nat} (ch:Nat->Bool) {y:Int} (h0:0<=y) (h:y/4≠(c:Int)):jnB (wiC ch c (cutK c y/4).toNat) (cutK c y)=cutK c (jnB (ch (y/4).toNat) y):=by
 have hd:=ybp (ch (y/4).toNat) y
 unfold cutK wiC
 rw [hd]
 by_cases e:(c:Int)<y/4
 ·rw [if_pos e,if_pos e,if_neg (by omega),show ((y-4)/4).toNat+1=(y/4).toNat by omega]
  have:=yzp (ch (y/4).toNat) (y-4) 1
  rw [show y-4+4*((1:Nat):Int)=y by omega] at this
  omega
 ·rw [if_neg e,if_neg e,if_pos (by omega)]
section
variable {m m':List Int} {n c:Nat} {b:Bool} {mt jn mt' jn':Int->Int} (hp:PmOk m n) (hc:c<n) (hi:Inv2 n mt jn) (hmt: ∀x,mt x=m.getD x.toNat 0) (hjd: ∀x,jn x/4=x/4) (hjc: ∀x,x/4=(c:Int)->jn x=jnB b x)
theorem PmOk.prd (hp:PmOk m n):yav m n:=⟨hp.ok,hp.inv⟩
include hjc hmt
theorem yob {h:Nat} {i:Nat} (hin: ∀j,j<i->it (nxC m b) j (m.getD h 0)/4=(c:Int)):Cir mt jn h (it (nxC m b) i (m.getD h 0)):=by
 induction i with
 |zero=>
  have h1:=Cir.mate (mt:=mt) (jn:=jn) (.refl (h:Int))
  rw [hmt] at h1
  exact h1
 |succ i ih=>
  have h1:=Cir.mate (Cir.join (ih fun j hj=>hin j (by omega)))
  rw [hjc _ (hin i (by omega)),hmt] at h1
  exact h1
theorem y59 {h:Nat} {y:Int} (ht:onT m b c h y):Cir mt jn h y:=by
 obtain ⟨i,h1,rfl|rfl⟩:=ht
 ·exact yob hmt hjc fun j hj=>h1 j (by omega)
 ·have h2:=Cir.join (yob hmt hjc (i:=i) fun j hj=>h1 j (by omega))
  rwa [hjc _ (h1 i (Nat.le_refl _))] at h2
variable (hi':Inv2 (n-1) mt' jn') (hmt': ∀x:Nat,x<4*(n-1)->mt' x=cutK c (thrX m b c 5 (m.getD (upK c x).toNat 0))) (hjq: ∀y:Int,0<=y->y/4≠(c:Int)->jn' (cutK c y)=cutK c (jn y))
include hp hc hi hjd hi' hmt' hjq
omit hi in
theorem y6a {x y:Int} (hx:InR (n-1) x) (h:Cir mt' jn' x y):Cir mt jn (upK c x) (upK c y):=by
 induction h with
 |refl=>exact .refl _
 | @mate y h ih=>
   have hy:=h.rng hi' hx
   have hr:=yh1 (c:=c) hy
   have ho:=yh0 c y
   obtain ⟨k,rfl⟩: ∃k:Nat,y=k:=⟨y.toNat,by unfold InR at hy;omega⟩
   obtain ⟨u,hu⟩: ∃u:Nat,upK c (k:Int)=u:=⟨(upK c (k:Int)).toNat,by unfold InR at hr;omega⟩
   unfold InR at hr hy
   rw [hu] at ih ho hr
   rw [hmt' k (by omega),hu,Int.toNat_natCast,yj0 (yfm hp.prd hc (by omega) (by omega))]
   obtain ⟨i,_,h2,h3⟩:=yoa (m:=m) (b:=b) (c:=c) 5 (m.getD u 0)
   rw [h3]
   exact ih.trans (yob hmt hjc h2)
 | @join y h ih=>
   have hy:=h.rng hi' hx
   have hr:=yh1 (c:=c) hy
   have ho:=yh0 c y
   have h1:=hjq (upK c y) hr.1 ho
   rw [yr2] at h1
   rw [h1,yj0 (by rw [hjd];exact ho)]
   exact ih.trans (.join (.refl _))
omit hi' in
theorem yzq {x v:Int} (hx:InR (n-1) x) (h:Cir mt jn (upK c x) v):(v/4≠(c:Int)->Cir mt' jn' x (cutK c v))/\(v/4=(c:Int)-> ∃z:Nat,z<4*n/\z/4≠c/\Cir mt' jn' x (cutK c z)/\onT m b c z v):=by
 have key: ∀z:Nat,z<4*n->z/4≠c->mt' (cutK c z)=cutK c (thrX m b c 5 (m.getD z 0)):=fun z hz ho=>by
  have hk:=yma hc (y:=(z:Int)) (by unfold InR;omega) (by omega)
  have h1:=yj0 (c:=c) (y:=(z:Int)) (by omega)
  unfold InR at hk
  obtain ⟨k,hk'⟩: ∃k:Nat,cutK c (z:Int)=k:=⟨(cutK c (z:Int)).toNat,by omega⟩
  rw [hk'] at h1 hk⊢
  rw [hmt' k (by omega),h1,Int.toNat_natCast]
 induction h with
 |refl=>exact ⟨fun _=>by rw [yr2];exact .refl _,fun e=>absurd e (yh0 c x)⟩
 | @mate v h ih=>
   have hv:=h.rng hi (yh1 hx)
   have hmv:=hi.mr _ hv
   by_cases hin:v/4=(c:Int)
   ·obtain ⟨z,z1,z2,z3,i,z4,z5⟩:=ih.2 hin
    rcases z5 with z5|z5
    ·cases i with
     |zero=>
      have e:mt v=z:=by rw [z5];show mt (m.getD z 0)=_;rw [hmt,hp.inv z z1]
      rw [e]
      exact ⟨fun _=>z3,fun e=>absurd e (by omega)⟩
     |succ k=>
      have e:mt v=jnB b (it (nxC m b) k (m.getD z 0)):=by
       have hk:=z4 k (by omega)
       have hd:=ybp b (it (nxC m b) k (m.getD z 0))
       rw [z5]
       show mt (m.getD (jnB b (it (nxC m b) k (m.getD z 0))).toNat 0)=_
       have h2:=hp.inv (jnB b (it (nxC m b) k (m.getD z 0))).toNat (by omega)
       rw [hmt,h2];omega
      rw [e]
      have hin2:jnB b (it (nxC m b) k (m.getD z 0))/4=(c:Int):=by rw [ybp];exact z4 k (by omega)
      exact ⟨fun e=>absurd hin2 e,fun _=>⟨z,z1,z2,z3,k,fun j hj=>z4 j (by omega), .inr rfl⟩⟩
    ·have e:mt v=it (nxC m b) (i+1) (m.getD z 0):=by rw [z5,hmt];rfl
     rw [e]
     refine ⟨fun ho=>?_,fun hin'=>⟨z,z1,z2,z3,i+1,fun j hj=>?_, .inl rfl⟩⟩
     ·have h5:=yr1 (b:=b) hp.prd hc z1 z2 z4
      have h6:=yrz (c:=c) 5 (m.getD z 0) (i+1) (by omega) (fun j hj=>z4 j (by omega)) ho
      have h7:=z3.mate
      rw [key z z1 z2,h6] at h7
      exact h7
     ·by_cases hj':j<=i
      ·exact z4 j hj'
      ·obtain rfl:j=i+1:=by omega
       exact hin'
   ·have h0:=ih.1 hin
    unfold InR at hv
    obtain ⟨z,rfl⟩: ∃z:Nat,v=z:=⟨v.toNat,by omega⟩
    refine ⟨fun ho=>?_,fun hin'=>⟨z,by omega,by omega,h0,0,fun j hj=>?_, .inl ?_⟩⟩
    ·have h7:=h0.mate
     rw [key z (by omega) (by omega),yfl (by rw [hmt] at ho;exact ho)] at h7
     rw [hmt];exact h7
    ·obtain rfl:j=0:=by omega
     rw [hmt] at hin';exact hin'
    ·rw [hmt];rfl
 | @join v h ih=>
   have hv:=h.rng hi (yh1 hx)
   by_cases hin:v/4=(c:Int)
   ·obtain ⟨z,z1,z2,z3,i,z4,z5⟩:=ih.2 hin
    rw [hjc _ hin]
    refine ⟨fun e=>absurd (by rw [ybp];exact hin) e,fun _=>⟨z,z1,z2,z3,i,z4,?_⟩⟩
    rcases z5 with z5|z5
    ·exact .inr (by rw [z5])
    ·exact .inl (by rw [z5,ycn])
   ·have h0:=(ih.1 hin).join
    rw [hjq v hv.1 hin] at h0
    exact ⟨fun _=>h0,fun e=>absurd (by rw [←hjd];exact e) hin⟩
omit hi' in
theorem y6b {v:Int} (hv:v/4=(c:Int)):smU m b c (4*n) v=true↔ ∃z:Nat,z<4*n/\z/4≠c/\Cir mt jn z v:=by
 rw [yux hp.prd hc v _ (Nat.le_refl _)]
 constructor
 ·rintro ⟨h,h1,h2,h3⟩
  exact ⟨h,h1,h2,y59 hmt hjc h3⟩
 ·rintro ⟨z,z1,z2,z3⟩
  have hk:=yma hc (y:=(z:Int)) (by unfold InR;omega) (by omega)
  rw [←yj0 (c:=c) (y:=(z:Int)) (by omega)] at z3
  obtain ⟨h,h1,h2,_,h4⟩:=(yzq hp hc hi hmt hjd hjc hmt' hjq hk z3).2 hv
  exact ⟨h,h1,h2,h4⟩
end
theorem ynh {R:List Int} {N:Nat} (hR:RepR R N) {l:List Nat} (hm: ∀x∈l,x<N) (hp:l.Pairwise fun x y=>R.getD x 0≠R.getD y 0) (hall: ∀x,x<N-> ∃y∈l,R.getD x 0=R.getD y 0):roots R=l.length:=by
 have h1:(l.map fun x=>(R.getD x 0).toNat).Nodup:=by
  rw [List.nodup_iff_pairwise_ne,List.pairwise_map]
  refine hp.imp_of_mem fun ha hb h e=>h ?_
  have:=hR.rng _ (hm _ ha)
  have:=hR.rng _ (hm _ hb)
  omega
 have h2:roots R=((List.range N).filter fun x=>R.getD x 0==(x:Int)).length:=by unfold roots;rw [hR.len,List.countP_eq_length_filter]
 have h3:((List.range N).filter fun x=>R.getD x 0==(x:Int)).Nodup:=List.nodup_range.filter _
 rw [h2]
 refine Nat.le_antisymm ?_ ?_
 ·have:=yce h3 (k:=l.map fun x=>(R.getD x 0).toNat) fun x hx=>?_
  ·rwa [List.length_map] at this
  ·obtain ⟨h4,h5⟩:=List.mem_filter.1 hx
   obtain ⟨y,h6,h7⟩:=hall x (List.mem_range.1 h4)
   have h8:=eq_of_beq h5
   exact List.mem_map.2 ⟨y,h6,by omega⟩
 ·have:=yce h1 (k:=(List.range N).filter fun x=>R.getD x 0==(x:Int)) fun x hx=>?_
  ·rwa [List.length_map] at this
  ·obtain ⟨y,h6,h7⟩:=List.mem_map.1 hx
   have h8:=hR.rng y (hm y h6)
   have h9:=hR.idem y (hm y h6)
   rw [h7] at h9
   exact List.mem_filter.2 ⟨List.mem_range.2 (by omega),by rw [h9];exact beq_iff_eq.2 (by omega)⟩
section
variable {m m':List Int} {n c:Nat} {b:Bool} {mt jn mt' jn':Int->Int} (hp:PmOk m n) (hc:c<n) (hi:Inv2 n mt jn) (hmt: ∀x,mt x=m.getD x.toNat 0) (hjd: ∀x,jn x/4=x/4) (hjc: ∀x,x/4=(c:Int)->jn x=jnB b x)
include hmt hjc
theorem yuy: ∀(f:Nat) (x:Int) (u:Int->Bool) (y:Int),x/4=(c:Int)->(∀z,z/4=(c:Int)->u z=false->nxC m b z/4=(c:Int))->lpU m b f x u y=true->u y=true\/Cir mt jn x y
 |0,_,_,_,_,_,h=> .inl h
 |f+1,x,u,y,hx,hu,h=>by
  cases e:u x with
  |true=>rw [y3m e] at h;exact .inl h
  |false=>
   rw [ypx e] at h
   have s1:Cir mt jn x (jnB b x):=by have:=Cir.join (Cir.refl (mt:=mt) (jn:=jn) x);rwa [hjc _ hx] at this
   rcases yuy f _ _ y (hu x hx e) (fun z hz h'=>hu z hz (by simp only [usd,Bool.or_eq_false_iff] at h';exact h'.1.1)) h with h1|h1
   ·simp only [usd,Bool.or_eq_true,beq_iff_eq] at h1
    rcases h1 with (h1|rfl)|rfl
    ·exact .inl h1
    ·exact .inr (.refl _)
    ·exact .inr s1
   ·have s2:=s1.mate
    rw [hmt] at s2
    exact .inr (s2.trans h1)
variable (hi':Inv2 (n-1) mt' jn') (hmt': ∀x:Nat,x<4*(n-1)->mt' x=cutK c (thrX m b c 5 (m.getD (upK c x).toNat 0))) (hjq: ∀y:Int,0<=y->y/4≠(c:Int)->jn' (cutK c y)=cutK c (jn y))
include hp hc hi hjd hi' hmt' hjq
theorem y20 {R R':List Int} (hR:CirR n mt jn R) (hR':CirR (n-1) mt' jn' R'):(roots R:Int)=roots R'+smL m b c n:=by
 obtain ⟨u0,hu0⟩: ∃u,u=smU m b c (4*n):=⟨_,rfl⟩
 have hS: ∀v:Int,v/4=(c:Int)->(u0 v=true↔ ∃z:Nat,z<4*n/\z/4≠c/\Cir mt jn z v):=fun v hv=>by rw [hu0];exact y6b hp hc hi hmt hjd hjc hmt' hjq hv
 have hcl:yfn b u0:=by rw [hu0];exact ywe _
 have hin: ∀z:Int,z/4=(c:Int)->u0 z=false->nxC m b z/4=(c:Int):=fun z hz h=>yym hp.prd hc hz (by rw [←hu0];exact h)
 obtain ⟨X,hX⟩: ∃X:Nat,X=if b then 4*c+1 else 4*c+3:=⟨_,rfl⟩
 have hXi:(if b then 4*(c:Int)+1 else 4*(c:Int)+3)=(X:Int):=by rw [hX];split<;>simp
 obtain ⟨J,hJ,hJX⟩: ∃J:Nat,jnB b (4*(c:Int))=J/\J=if b then 4*c+3 else 4*c+1:=by
  obtain ⟨a1,_,_,_,a5,_,_,_⟩:=yp2 c
  refine ⟨_,?_,rfl⟩
  rw [show 4*(c:Int)=((4*c:Nat):Int) by omega]
  cases b with
  |true=>rw [a1];rfl
  |false=>rw [a5];rfl
 have hJ2:jnB b (X:Int)=((4*c+2:Nat):Int):=by
  obtain ⟨_,a2,_,_,_,_,_,a8⟩:=yp2 c
  rw [hX]
  cases b with
  |true=>exact a2
  |false=>exact a8
 have hXJ:X≠J/\4*c<X/\X<4*c+4/\4*c<J/\J<4*c+4/\X≠4*c+2/\J≠4*c+2:=by rw [hX,hJX];split<;>omega
 have four: ∀x:Nat,x/4=c->x=4*c\/x=J\/x=X\/x=4*c+2:=fun x hx=>by rw [hX,hJX];split<;>omega
 have c4:(4*(c:Int))/4=(c:Int):=by omega
 have cX:(X:Int)/4=(c:Int):=by omega
 have k4:(4*(c:Int))=((4*c:Nat):Int):=by omega
 obtain ⟨u1,hu1⟩: ∃u,u=if u0 (4*c) then u0 else lpU m b 5 (4*c) u0:=⟨_,rfl⟩
 have hm1:u1 X=false->u0 X=false:=fun h=>by
  rw [hu1] at h
  cases e:u0 X with
  |false=>rfl
  |true=>
   split at h
   ·rw [e] at h;cases h
   ·rw [yg4 5 _ _ _ e] at h;cases h
 have hlc:u0 (4*c)=false->u1 X=true->u0 X=true\/Cir mt jn ((4*c:Nat):Int) X:=fun h0 h1=>by
  rw [hu1,if_neg (by rw [h0];simp)] at h1
  have:=yuy hmt hjc 5 _ u0 _ c4 hin h1
  rwa [←k4]
 have hlc2:u0 (4*c)=false->Cir mt jn ((4*c:Nat):Int) X->u1 X=true:=fun h0 h1=>by
  rw [hu1,if_neg (by rw [h0];simp),ypx h0]
  have hh:=hin _ c4 h0
  obtain ⟨h,hh1⟩: ∃h:Nat,nxC m b (4*c)=h:=⟨(nxC m b (4*c)).toNat,by omega⟩
  rw [hh1] at hh⊢
  rw [hJ]
  have hmJ:m.getD J 0=h:=by rw [←hh1];unfold nxC;rw [hJ,Int.toNat_natCast]
  have huc:yfn b (usd u0 (4*c) J):=by rw [←hJ];exact ym2 hcl _
  have key:usd u0 (4*c) J h=false->(h=X\/h=4*c+2)->lpU m b 4 h (usd u0 (4*c) J) X=true:=fun e1 e2=>by
   rw [ypx e1]
   refine yg4 3 _ _ _ ?_
   rcases e2 with rfl|rfl
   ·simp [usd]
   ·rw [←hJ2,ycn];simp [usd]
  rcases four h (by omega) with e|e|e|e
  ·exfalso
   have hcl2: ∀y,Cir mt jn ((4*c:Nat):Int) y->y=((4*c:Nat):Int)\/y=J:=fun y hy=>by
    have h2:=hp.inv J (by omega)
    rw [hmJ,e,Int.toNat_natCast] at h2
    induction hy with
    |refl=>exact .inl rfl
    |mate _ ih=>
     rcases ih with rfl|rfl
     ·right;rw [hmt,Int.toNat_natCast];exact h2
     ·left;rw [hmt,Int.toNat_natCast,hmJ,e]
    |join _ ih=>
     rcases ih with rfl|rfl
     ·right;rw [hjc _ (by omega),←k4];exact hJ
     ·left;rw [hjc _ (by omega),←hJ,ycn];exact k4
   rcases hcl2 _ h1 with e'|e'<;>omega
  ·exact absurd (by rw [hmJ,e]) (hp.ne J (by omega))
  ·cases e1:usd u0 (4*c) J h with
   |true=>exact yg4 4 _ _ _ (by rw [←e];exact e1)
   |false=>exact key e1 (.inl e)
  ·cases e1:usd u0 (4*c) J h with
   |true=>refine yg4 4 _ _ _ ?_;rw [huc,hJ2,←e];exact e1
   |false=>exact key e1 (.inr e)
 have hsm:smL m b c n=(if u0 (4*c) then 0 else 1)+(if u1 X then 0 else 1):=by
  unfold smL
  simp only
  rw [hXi,hu1,hu0]
 have hRc: ∀x y:Nat,x<4*n->y<4*n->(R.getD x 0=R.getD y 0↔Cir mt jn x y):=hR.iff
 have upN: ∀k,k<4*(n-1)->(((upK c k).toNat:Nat):Int)=upK c k/\(upK c k).toNat<4*n/\(upK c k).toNat/4≠c:=fun k hk=>by
  have h1:=yh1 (n:=n) (c:=c) (x:=(k:Int)) (by unfold InR;omega)
  have h2:=yh0 c k
  unfold InR at h1
  omega
 have hap: ∀k,k<4*(n-1)-> ∀v:Nat,v/4=c->v<4*n->u0 v=false->R.getD (upK c k).toNat 0≠R.getD v 0:=fun k hk v hv hvn h0 e=>by
  obtain ⟨g1,g2,g3⟩:=upN k hk
  have:=(hS v (by omega)).2 ⟨_,g2,g3,(hRc _ _ g2 hvn).1 e⟩
  rw [h0] at this;cases this
 have fin:roots R=(((List.range (4*(n-1))).filter fun x=>R'.getD x 0==(x:Int)).map (fun k:Nat=>(upK c k).toNat)++((if u0 (4*c) then [] else [4*c])++(if u1 X then [] else [X]))).length:=by
  refine ynh hR.rep (fun x hx=>?_) ?_ (fun x hx=>?_)
  ·rcases List.mem_append.1 hx with h|h
   ·obtain ⟨k,h1,rfl⟩:=List.mem_map.1 h
    exact (upN k (List.mem_range.1 (List.mem_filter.1 h1).1)).2.1
   ·rcases List.mem_append.1 h with h|h
    ·split at h
     ·cases h
     ·obtain rfl:=List.mem_singleton.1 h;omega
    ·split at h
     ·cases h
     ·obtain rfl:=List.mem_singleton.1 h;omega
  ·refine List.pairwise_append.2 ⟨?_,List.pairwise_append.2 ⟨?_,?_,fun x hx y hy e=>?_⟩,fun x hx y hy=>?_⟩
   ·rw [List.pairwise_map]
    refine (List.nodup_iff_pairwise_ne.1 (List.nodup_range.filter _)).imp_of_mem fun {a b} ha hb hne e=>hne ?_
    obtain ⟨a1,a2⟩:=List.mem_filter.1 ha
    obtain ⟨b1,b2⟩:=List.mem_filter.1 hb
    have a1:=List.mem_range.1 a1
    have b1:=List.mem_range.1 b1
    obtain ⟨g1,g2,g3⟩:=upN a a1
    obtain ⟨f1,f2,f3⟩:=upN b b1
    have h1:=(hRc _ _ g2 f2).1 e
    rw [g1,f1] at h1
    have h2:=(yzq hp hc hi hmt hjd hjc hmt' hjq (by unfold InR;omega) h1).1 (yh0 c b)
    rw [yr2] at h2
    have h3:=(hR'.iff a b a1 b1).2 h2
    have a2:=eq_of_beq a2
    have b2:=eq_of_beq b2
    omega
   ·split<;>simp
   ·split<;>simp
   ·split at hx
    ·cases hx
    ·split at hy
     ·cases hy
     ·rename_i h0 h1
      obtain rfl:=List.mem_singleton.1 hx
      obtain rfl:=List.mem_singleton.1 hy
      exact h1 (hlc2 (Bool.eq_false_iff.2 h0) ((hRc _ _ (by omega) (by omega)).1 e))
   ·obtain ⟨k,h1,rfl⟩:=List.mem_map.1 hx
    have hk:=List.mem_range.1 (List.mem_filter.1 h1).1
    rcases List.mem_append.1 hy with h|h
    ·split at h
     ·cases h
     ·rename_i h0
      obtain rfl:=List.mem_singleton.1 h
      exact hap k hk _ (by omega) (by omega) (by rw [←k4];exact Bool.eq_false_iff.2 h0)
    ·split at h
     ·cases h
     ·rename_i h0
      obtain rfl:=List.mem_singleton.1 h
      exact hap k hk _ (by omega) (by omega) (hm1 (Bool.eq_false_iff.2 h0))
  ·have outc: ∀z:Nat,z<4*n->z/4≠c-> ∃y∈((List.range (4*(n-1))).filter fun x=>R'.getD x 0==(x:Int)).map (fun k:Nat=>(upK c k).toNat),R.getD z 0=R.getD y 0:=fun z hz ho=>by
    have hk:=yma hc (y:=(z:Int)) (by unfold InR;omega) (by omega)
    have h1:=yj0 (c:=c) (y:=(z:Int)) (by omega)
    unfold InR at hk
    obtain ⟨k,hk'⟩: ∃k:Nat,cutK c (z:Int)=k:=⟨(cutK c (z:Int)).toNat,by omega⟩
    rw [hk'] at h1 hk
    have hk2:k<4*(n-1):=by omega
    have r1:=hR'.rep.rng k hk2
    have r2:=hR'.rep.idem k hk2
    obtain ⟨r,hr⟩: ∃r:Nat,R'.getD k 0=r:=⟨(R'.getD k 0).toNat,by omega⟩
    rw [hr] at r1 r2
    rw [Int.toNat_natCast] at r2
    have hr2:r<4*(n-1):=by omega
    obtain ⟨f1,f2,f3⟩:=upN r hr2
    refine ⟨(upK c r).toNat,List.mem_map.2 ⟨r,List.mem_filter.2 ⟨List.mem_range.2 hr2,beq_iff_eq.2 r2⟩,rfl⟩,?_⟩
    refine (hRc _ _ hz f2).2 ?_
    rw [f1,←h1]
    exact y6a hp hc hmt hjd hjc hi' hmt' hjq (by unfold InR;omega) ((hR'.iff k r hk2 hr2).1 (by rw [hr,r2]))
   by_cases ho:x/4=c
   ·cases e0:u0 x with
    |true=>
     obtain ⟨z,z1,z2,z3⟩:=(hS x (by omega)).1 e0
     obtain ⟨y,y1,y2⟩:=outc z z1 z2
     exact ⟨y,List.mem_append_left _ y1,by rw [←y2];exact ((hRc _ _ z1 hx).2 z3).symm⟩
    |false=>
     have q1:u0 (4*c)=false->Cir mt jn ((4*c:Nat):Int) x-> ∃y∈((List.range (4*(n-1))).filter fun x=>R'.getD x 0==(x:Int)).map (fun k:Nat=>(upK c k).toNat)++((if u0 (4*c) then [] else [4*c])++(if u1 X then [] else [X])),R.getD x 0=R.getD y 0:=fun h0 h1=>
      ⟨4*c,List.mem_append_right _ (List.mem_append_left _ (by rw [h0];simp)),((hRc _ _ (by omega) hx).2 h1).symm⟩
     have q2:u1 X=false->Cir mt jn X x-> ∃y∈((List.range (4*(n-1))).filter fun x=>R'.getD x 0==(x:Int)).map (fun k:Nat=>(upK c k).toNat)++((if u0 (4*c) then [] else [4*c])++(if u1 X then [] else [X])),R.getD x 0=R.getD y 0:=fun h0 h1=>
      ⟨X,List.mem_append_right _ (List.mem_append_right _ (by rw [h0];simp)),((hRc _ _ (by omega) hx).2 h1).symm⟩
     have j1:Cir mt jn ((4*c:Nat):Int) J:=by
      have:=Cir.join (Cir.refl (mt:=mt) (jn:=jn) ((4*c:Nat):Int))
      rwa [hjc _ (by omega),←k4,hJ,k4] at this
     have j2:Cir mt jn X ((4*c+2:Nat):Int):=by
      have:=Cir.join (Cir.refl (mt:=mt) (jn:=jn) (X:Int))
      rwa [hjc _ cX,hJ2] at this
     have p1:u0 J=u0 (4*c):=by rw [hcl (4*c),hJ]
     have p2:u0 ((4*c+2:Nat):Int)=u0 X:=by rw [hcl X,hJ2]
     have q3:u0 X=false->Cir mt jn X x-> ∃y∈((List.range (4*(n-1))).filter fun x=>R'.getD x 0==(x:Int)).map (fun k:Nat=>(upK c k).toNat)++((if u0 (4*c) then [] else [4*c])++(if u1 X then [] else [X])),R.getD x 0=R.getD y 0:=fun h0 h1=>by
      by_cases e1:u1 X=true
      ·by_cases e2:u0 (4*c)=true
       ·rw [hu1,if_pos e2,h0] at e1;cases e1
       ·rcases hlc (Bool.eq_false_iff.2 e2) e1 with h2|h2
        ·rw [h0] at h2;cases h2
        ·exact q1 (Bool.eq_false_iff.2 e2) (h2.trans h1)
      ·exact q2 (Bool.eq_false_iff.2 e1) h1
     rcases four x ho with rfl|rfl|rfl|rfl
     ·exact q1 (by rw [k4];exact e0) (.refl _)
     ·exact q1 (by rw [←p1];exact e0) j1
     ·exact q3 e0 (.refl _)
     ·exact q3 (by rw [←p2];exact e0) j2
   ·obtain ⟨y,y1,y2⟩:=outc x hx ho
    exact ⟨y,List.mem_append_left _ y1,y2⟩
 have hr':roots R'=((List.range (4*(n-1))).filter fun x=>R'.getD x 0==(x:Int)).length:=by unfold roots;rw [hR'.rep.len,List.countP_eq_length_filter]
 rw [hsm,fin,List.length_append,List.length_append,List.length_map,←hr']
 cases u0 (4*c)<;>cases u1 X<;>simp<;>omega
end
theorem y77 {m:List Int} {n c:Nat} (hp:PmOk m n) (hc:c<n) (ch:Nat->Bool) (hp':PmOk (woM (smE m (ch c) c (4*n)) c n) (n-1)):
  (cirS m n ch:Int)=cirS (woM (smE m (ch c) c (4*n)) c n) (n-1) (wiC ch c)+smL m (ch c) c n:=by
 refine y20 (mt:=fun x=>m.getD x.toNat 0) (jn:=fun x=>jnB (ch (x/4).toNat) x) (mt':=fun x=>(woM (smE m (ch c) c (4*n)) c n).getD x.toNat 0) (jn':=fun x=>jnB (wiC ch c (x/4).toNat) x) hp hc (ygk hp.ok hp.inv hp.ne ch) (fun _=>rfl) (fun x=>ybp _ x) (fun x hx=>by show jnB (ch (x/4).toNat) x=_;rw [hx];rfl) (ygk hp'.ok hp'.inv hp'.ne _) (fun x hx=>?_) (fun y h0 h=>y76 ch h0 h) (yp3 hp.ok hp.inv hp.ne) (yp3 hp'.ok hp'.inv hp'.ne)
 obtain ⟨wl,wg⟩:=Sp.woM_get (E:=smE m (ch c) c (4*n)) (c:=c) n
 rw [if_pos hc] at wl wg
 have hml:=hp.ok.1
 have e:(upK c (x:Int)).toNat=if x/4<c then x else x+4:=by unfold upK;split<;>split<;>omega
 rw [e]
 show (woM (smE m (ch c) c (4*n)) c n).getD (Int.toNat (x:Int)) 0=_
 rw [Int.toNat_natCast,wg x hx]
 unfold cutM
 rw [Sp.smE_get (i:=if x/4<c then x else x+4) (by split<;>omega) (4*n) (by omega) (by split<;>omega)]
 rfl
end Go.Proofs.YtjpbeacamoijhaaDoor
