/- Plain: circles of a state (for the bracket). -/
import Derived.Test.YtjpbeacamoijhaaGreatDoorPl
set_option linter.unusedSimpArgs false
set_option linter.unusedVariables false
namespace Go.Proofs.YtjpbeacamoijhaaGreatDoor
def iF (R:List Int) (g h:Nat):List Int:=if R.getD g 0=R.getD h 0 then R else R.map fun r=>if r=R.getD g 0 then R.getD h 0 else r
def roots (R:List Int):Nat:=(List.range R.length).countP fun x=>R.getD x 0==(x:Int)
structure l6 (R:List Int) (N:Nat):Prop where
 len:R.length=N
 iV: ∀x,x<N->0<=R.getD x 0/\R.getD x 0<N
 idem: ∀x,x<N->R.getD (R.getD x 0).toNat 0=R.getD x 0
theorem Yq {α β:Type} (l:List α) (f:α->β) (i:Nat) (d:α) (e:β) (h:i<l.length):(l.map f).getD i e=f (l.getD i d):=by simp [h]
section
variable {R:List Int} {N:Nat}
theorem SH (R:List Int) (g h:Nat):(iF R g h).length=R.length:=by unfold iF;split<;>simp
theorem tO (hl:R.length=N) {g h x:Nat} (hx:x<N):(iF R g h).getD x 0=if R.getD x 0=R.getD g 0 then R.getD h 0 else R.getD x 0:=by
 unfold iF
 split
 ·rename_i e;split
  ·omega
  ·rfl
 ·rw [Yq _ _ _ 0 _ (by omega)]
theorem I9 (hR:l6 R N) {g h:Nat} (hg:g<N) (hh:h<N):l6 (iF R g h) N:=by
 refine ⟨by rw [SH];exact hR.len,fun x hx=>?_,fun x hx=>?_⟩
 ·rw [tO hR.len hx];have:=hR.iV x hx;have:=hR.iV h hh;split<;>omega
 ·rw [tO hR.len hx];have r1:=hR.iV x hx;have r2:=hR.iV h hh;by_cases e:R.getD x 0=R.getD g 0
  ·rw [if_pos e,tO hR.len (by omega),hR.idem h hh];split<;>rfl
  ·rw [if_neg e,tO hR.len (by omega),hR.idem x hx,if_neg e]
theorem Bl (hl:R.length=N) {g h x y:Nat} (hx:x<N) (hy:y<N) (e:R.getD x 0=R.getD y 0):(iF R g h).getD x 0=(iF R g h).getD y 0:=by
 rw [tO hl hx,tO hl hy,e]
theorem Jj (hl:R.length=N) {g h:Nat} (hg:g<N) (hh:h<N):(iF R g h).getD g 0=(iF R g h).getD h 0:=by
 rw [tO hl hg,tO hl hh,if_pos rfl];split<;>rfl
theorem Yp (p q:Nat->Bool) (N a:Nat) (ha:a<N) (h1:p a=true) (h2:q a=false) (h: ∀x,x<N->x≠a->p x=q x):(List.range N).countP p=(List.range N).countP q+1:=by
 induction N with
 |zero=>omega
 |succ N ih=>
  rw [List.range_succ,List.countP_append,List.countP_append];by_cases e:a=N
  ·subst e
   have:(List.range a).countP p=(List.range a).countP q:=List.countP_congr fun x hx=>by
    have:=List.mem_range.1 hx
    rw [h x (by omega) (by omega)]
   simp [this,h1,h2]
  ·have:=ih (by omega) (fun x hx hn=>h x (by omega) hn)
   have e2:=h N (by omega) (by omega);simp only [List.countP_cons,List.countP_nil,e2];omega
theorem YK (hR:l6 R N) {g h:Nat} (hg:g<N) (hh:h<N) (ax:R.getD g 0≠R.getD h 0):roots R=roots (iF R g h)+1:=by
 have r1:=hR.iV g hg;unfold roots;rw [SH];have hl:=hR.len;refine Yp _ _ R.length (R.getD g 0).toNat (by omega) ?_ ?_ ?_
 ·rw [hR.idem g hg];simp only [beq_iff_eq];omega
 ·rw [tO hR.len (by omega),hR.idem g hg,if_pos rfl];simp only [beq_eq_false_iff_ne,ne_eq];omega
 ·intro x hx hn;rw [tO hR.len (by omega)];by_cases e:R.getD x 0=R.getD g 0
  ·rw [if_pos e,e];have e1:(R.getD g 0==(x:Int))=false:=by simp only [beq_eq_false_iff_ne,ne_eq];omega
   have e2:(R.getD h 0==(x:Int))=false:=by
    simp only [beq_eq_false_iff_ne,ne_eq];intro e3
    have:=hR.idem h hh
    rw [e3] at this;simp only [Int.toNat_natCast] at this;omega
   rw [e1,e2]
  ·rw [if_neg e]
end
structure Inv2 (n:Nat) (mt jn:Int->Int):Prop where
 mr: ∀x,aA n x->aA n (mt x)
 jr: ∀x,aA n x->aA n (jn x)
 mm: ∀x,aA n x->mt (mt x)=x
 jj: ∀x,aA n x->jn (jn x)=x
 mf: ∀x,aA n x->mt x≠x
 jf: ∀x,aA n x->jn x≠x
inductive bH (mt jn:Int->Int):Int->Int->Prop
 |refl (x:Int):bH mt jn x x
 |mate {x y:Int} (h:bH mt jn x y):bH mt jn x (mt y)
 |join {x y:Int} (h:bH mt jn x y):bH mt jn x (jn y)
section
variable {n:Nat} {mt jn:Int->Int}
theorem bH.trans {x y z:Int} (h1:bH mt jn x y) (h2:bH mt jn y z):bH mt jn x z:=by
 induction h2 with
 |refl=>exact h1
 |mate _ ih=>exact .mate ih
 |join _ ih=>exact .join ih
theorem bH.iV (hi:Inv2 n mt jn) {x y:Int} (h:bH mt jn x y) (hx:aA n x):aA n y:=by
 induction h with
 |refl=>exact hx
 |mate _ ih=>exact hi.mr _ ih
 |join _ ih=>exact hi.jr _ ih
theorem bH.symm (hi:Inv2 n mt jn) {x y:Int} (h:bH mt jn x y) (hx:aA n x):bH mt jn y x:=by
 induction h with
 |refl=>exact .refl _
 | @mate y h ih=>
   have h1:=bH.mate (mt:=mt) (jn:=jn) (bH.refl (mt y));rw [hi.mm y (h.iV hi hx)] at h1;exact h1.trans ih
 | @join y h ih=>
   have h1:=bH.join (mt:=mt) (jn:=jn) (bH.refl (jn y));rw [hi.jj y (h.iV hi hx)] at h1;exact h1.trans ih
structure l7 (n:Nat) (mt jn:Int->Int) (R:List Int):Prop where
 rep:l6 R (4*n)
 iff: ∀x y:Nat,x<4*n->y<4*n->(R.getD x 0=R.getD y 0↔bH mt jn x y)
theorem l7.of {R:List Int} (hi:Inv2 n mt jn) (hR:l6 R (4*n)) (h1: ∀x y:Nat,x<4*n->y<4*n->R.getD x 0=R.getD y 0->bH mt jn x y)
  (h2: ∀x:Nat,x<4*n->R.getD (mt x).toNat 0=R.getD x 0) (h3: ∀x:Nat,x<4*n->R.getD (jn x).toNat 0=R.getD x 0):l7 n mt jn R:=by
 refine ⟨hR,fun x y hx hy=>⟨h1 x y hx hy,fun h=>?_⟩⟩;have key: ∀z,bH mt jn x z->R.getD z.toNat 0=R.getD x 0:=by
  intro z hz
  induction hz with
  |refl=>simp
  | @mate y h ih=>
    have:=h.iV hi (by unfold aA;omega)
    unfold aA at this;have h4:=h2 y.toNat (by omega);rw [show ((y.toNat:Nat):Int)=y by omega] at h4;rw [h4,ih]
  | @join y h ih=>
    have:=h.iV hi (by unfold aA;omega)
    unfold aA at this;have h4:=h3 y.toNat (by omega);rw [show ((y.toNat:Nat):Int)=y by omega] at h4;rw [h4,ih]
 have:=key y h
 simpa using this.symm
theorem Jw: ∀{l k:List Nat},l.Nodup->(∀x∈l,x∈k)->l.length<=k.length
 |[],_,_,_=>Nat.zero_le _
 |x::l,k,hn,hs=>by
  have hx:=hs x (by simp);obtain ⟨gX,yw⟩:=List.nodup_cons.1 hn
  have:=Jw (l:=l) (k:=k.erase x) yw (fun y hy=>(List.mem_erase_of_ne (by intro e;subst e;exact gX hy)).2 (hs y (by simp [hy])))
  have h2:=List.length_erase_of_mem hx;have h3:=List.length_pos_of_mem hx;simp only [List.length_cons];omega
theorem IQ {R L:List Int} (hR:l6 R (4*n)) (hL:l6 L (4*n)) (h: ∀x y:Nat,x<4*n->y<4*n->(R.getD x 0=R.getD y 0↔L.getD x 0=L.getD y 0)):roots L<=roots R:=by
 unfold roots;rw [List.countP_eq_length_filter,List.countP_eq_length_filter];have hlen:((List.range L.length).filter fun x=>L.getD x 0==(x:Int)).length=(((List.range L.length).filter fun x=>L.getD x 0==(x:Int)).map fun x=>(R.getD x 0).toNat).length:=by simp
 rw [hlen];refine Jw ?_ ?_
 ·rw [List.nodup_iff_pairwise_ne,List.pairwise_map];refine List.Pairwise.imp_of_mem ?_ (List.nodup_iff_pairwise_ne.1 (List.Nodup.sublist List.filter_sublist List.nodup_range));intro a b ha hb ax e;simp only [List.mem_filter,List.mem_range,beq_iff_eq,hL.len] at ha hb;have r1:=hR.iV a (by omega);have r2:=hR.iV b (by omega)
  have:=(h a b (by omega) (by omega)).1 (by omega)
  omega
 ·intro x hx;simp only [List.mem_map,List.mem_filter,List.mem_range,beq_iff_eq,hL.len] at hx;obtain ⟨a,⟨ha,_⟩,rfl⟩:=hx;have r1:=hR.iV a (by omega)
  have:=hR.idem a (by omega)
  simp only [List.mem_filter,List.mem_range,beq_iff_eq,hR.len];omega
theorem Sk {R L:List Int} (hR:l7 n mt jn R) (hL:l7 n mt jn L):roots R=roots L:=
 Nat.le_antisymm (IQ hL.rep hR.rep fun x y hx hy=>by rw [hL.iff x y hx hy,hR.iff x y hx hy]) (IQ hR.rep hL.rep fun x y hx hy=>by rw [hL.iff x y hx hy,hR.iff x y hx hy])
theorem z6 (hi:Inv2 n mt jn):Perm (fun x=>jn (mt x)) (4*n) (aA n):=
 ⟨fun x hx=>by unfold aA at hx;omega,fun x hx=>hi.jr _ (hi.mr _ hx),fun x y hx hy e=>by
  have h1:=congrArg jn e;rw [hi.jj _ (hi.mr _ hx),hi.jj _ (hi.mr _ hy)] at h1;have h2:=congrArg mt h1;rwa [hi.mm _ hx,hi.mm _ hy] at h2⟩
theorem Sj (hi:Inv2 n mt jn) {x:Int} (hx:aA n x): ∀d i j,i+d=j->it (fun x=>jn (mt x)) j x≠mt (it (fun x=>jn (mt x)) i x)/\it (fun x=>jn (mt x)) i x≠mt (it (fun x=>jn (mt x)) j x):=by
 have hR: ∀j,aA n (it (fun x=>jn (mt x)) j x):=fun j=>(z6 hi).it hx j;have Gv: ∀i j,it (fun x=>jn (mt x)) j x=mt (it (fun x=>jn (mt x)) i x)->it (fun x=>jn (mt x)) i x=mt (it (fun x=>jn (mt x)) j x):=fun i j e=>by rw [e,hi.mm _ (hR i)]
 intro d
 induction d using Nat.strongRecOn with
 |_ d ih=>
  intro i j hd;have key:it (fun x=>jn (mt x)) j x≠mt (it (fun x=>jn (mt x)) i x):=by
   intro e;by_cases h0:d=0
   ·obtain rfl:j=i:=by omega
    exact hi.mf _ (hR j) e.symm
   ·by_cases h1:d=1
    ·obtain rfl:j=i+1:=by omega
     exact hi.jf _ (hi.mr _ (hR i)) e
    ·--shift both towards each other
     have e2:it (fun x=>jn (mt x)) (i+1) x=mt (it (fun x=>jn (mt x)) (j-1) x):=by
      show jn (mt (it (fun x=>jn (mt x)) i x))=_;rw [←e]
      conv=>lhs;rw [show j=(j-1)+1 by omega]
      exact hi.jj _ (hi.mr _ (hR (j-1)))
     exact (ih (d-2) (by omega) (i+1) (j-1) (by omega)).2 e2
  exact ⟨key,fun e=>key (Gv j i e)⟩
def crW (mt jn:Int->Int) (h:Int):Nat->List Int->Int->List Int
 |0,out,_=>out
 |f+1,out,g=>if out.getD g.toNat 0<0 then crW mt jn h f ((out.set g.toNat h).set (mt g).toNat h) (jn (mt g)) else out
def crN (mt jn:Int->Int) (N:Nat):Nat->List Int
 |0=>List.replicate N (-1)
 |h+1=>if 0<=(crN mt jn N h).getD h 0 then crN mt jn N h else crW mt jn h (N+1) (crN mt jn N h) h
def Dx (mt jn:Int->Int) (x:Int) (k:Nat) (y:Int):Prop:= ∃j,j<k/\(y=it (fun x=>jn (mt x)) j x\/y=mt (it (fun x=>jn (mt x)) j x))
theorem y4c (hi:Inv2 n mt jn) {x:Nat} (hx:x<4*n) {k:Nat} (hk:uv (fun x=>jn (mt x)) x k) {dP:List Int} (AH:dP.length=4*n)
  (hu: ∀j,j<k->dP.getD (it (fun x=>jn (mt x)) j x).toNat 0<0):
  ∀d j f (out:List Int),d=k-j->j<=k->d<f->out.length=4*n->(∀y:Nat,y<4*n->(Dx mt jn x j y->out.getD y 0=x)/\(¬Dx mt jn x j y->out.getD y 0=dP.getD y 0))->
  (crW mt jn x f out (it (fun x=>jn (mt x)) j x)).length=4*n/\ ∀y:Nat,y<4*n->(Dx mt jn x k y->(crW mt jn x f out (it (fun x=>jn (mt x)) j x)).getD y 0=x)/\(¬Dx mt jn x k y->(crW mt jn x f out (it (fun x=>jn (mt x)) j x)).getD y 0=dP.getD y 0):=by
 have gX:aA n (x:Int):=by unfold aA;omega
 have hR: ∀j,aA n (it (fun x=>jn (mt x)) j x):=fun j=>(z6 hi).it gX j;have yz:=hk.pos;intro d
 induction d with
 |zero=>
  intro j f out hd hj hf hl hy;obtain rfl:j=k:=by omega
  obtain ⟨f',rfl⟩: ∃f',f=f'+1:=⟨f-1,by omega⟩;have e:out.getD (it (fun x=>jn (mt x)) j x).toNat 0=x:=by
   rw [hk.back];exact (hy x hx).1 ⟨0,yz, .inl rfl⟩
  unfold crW;rw [if_neg (by omega)];exact ⟨hl,hy⟩
 |succ d ih=>
  intro j f out hd hj hf hl hy;obtain ⟨f',rfl⟩: ∃f',f=f'+1:=⟨f-1,by omega⟩;have r1:=hR j;have r2:=hi.mr _ (hR j);unfold aA at r1 r2;have px: ¬Dx mt jn x j (it (fun x=>jn (mt x)) j x):=by
   rintro ⟨i,ke,e|e⟩
   ·have:=(z6 hi).cancel gX i (j-i) (by rw [show i+(j-i)=j by omega];exact e)
    exact hk.first (j-i) (by omega) (by omega) this
   ·exact (Sj hi gX (j-i) i j (by omega)).1 e
  have e:out.getD (it (fun x=>jn (mt x)) j x).toNat 0<0:=by
   have h1:=(hy (it (fun x=>jn (mt x)) j x).toNat (by omega)).2;rw [show (((it (fun x=>jn (mt x)) j x).toNat:Nat):Int)=it (fun x=>jn (mt x)) j x by omega] at h1;rw [h1 px];exact hu j (by omega)
  unfold crW;rw [if_pos e];refine ih (j+1) f' _ (by omega) (by omega) (by omega) (by simp [hl]) fun y VN=>?_;have hset:((out.set (it (fun x=>jn (mt x)) j x).toNat x).set (mt (it (fun x=>jn (mt x)) j x)).toNat x).getD y 0=if (y:Int)=it (fun x=>jn (mt x)) j x\/(y:Int)=mt (it (fun x=>jn (mt x)) j x) then (x:Int) else out.getD y 0:=by
   by_cases e1:(mt (it (fun x=>jn (mt x)) j x)).toNat=y
   ·rw [e1,nr (by simp [hl];omega),if_pos (.inr (by omega))]
   ·rw [ns e1];by_cases e2:(it (fun x=>jn (mt x)) j x).toNat=y
    ·rw [e2,nr (by omega),if_pos (.inl (by omega))]
    ·rw [ns e2,if_neg (by omega)]
  rw [hset];constructor
  ·rintro ⟨i,ke,sy⟩;rcases Nat.lt_or_ge i j with q|q
   ·split
    ·rfl
    ·exact (hy y VN).1 ⟨i,q,sy⟩
   ·obtain rfl:i=j:=by omega
    rw [if_pos sy]
  ·intro iy;rw [if_neg fun sy=>iy ⟨j,by omega,sy⟩];exact (hy y VN).2 fun ⟨i,ke,sy⟩=>iy ⟨i,by omega,sy⟩
theorem Li (hi:Inv2 n mt jn) {x:Int} (hx:aA n x) {k:Nat} (hk:uv (fun x=>jn (mt x)) x k) {y:Int}:Dx mt jn x k y↔bH mt jn x y:=by
 have hR: ∀j,aA n (it (fun x=>jn (mt x)) j x):=fun j=>(z6 hi).it hx j;have yz:=hk.pos;constructor
 ·rintro ⟨j,hj,h⟩;have hc: ∀j,bH mt jn x (it (fun x=>jn (mt x)) j x):=by
   intro j
   induction j with
   |zero=>exact .refl _
   |succ j ih=>exact .join (.mate ih)
  rcases h with rfl|rfl
  ·exact hc j
  ·exact .mate (hc j)
 ·intro h
  induction h with
  |refl=>exact ⟨0,yz, .inl rfl⟩
  |mate _ ih=>
   obtain ⟨j,hj,h⟩:=ih;rcases h with rfl|rfl
   ·exact ⟨j,hj, .inr rfl⟩
   ·exact ⟨j,hj, .inl (hi.mm _ (hR j))⟩
  |join _ ih=>
   obtain ⟨j,hj,h⟩:=ih;rcases h with rfl|rfl
   ·--jn of the j-th is the mate of the one before
    by_cases h0:j=0
    ·subst h0;refine ⟨k-1,by omega, .inr ?_⟩
     have:it (fun x=>jn (mt x)) ((k-1)+1) x=x:=by rw [show (k-1)+1=k by omega];exact hk.back
     have h2:jn (mt (it (fun x=>jn (mt x)) (k-1) x))=x:=this;show jn x=_;rw [←h2,hi.jj _ (hi.mr _ (hR _)),h2]
    ·refine ⟨j-1,by omega, .inr ?_⟩
     conv=>lhs;rw [show j=(j-1)+1 by omega]
     exact hi.jj _ (hi.mr _ (hR (j-1)))
   ·by_cases h1:j+1<k
    ·exact ⟨j+1,h1, .inl rfl⟩
    ·refine ⟨0,yz, .inl ?_⟩
     have:it (fun x=>jn (mt x)) (j+1) x=x:=by rw [show j+1=k by omega];exact hk.back
     exact this
structure CrI (n:Nat) (mt jn:Int->Int) (h:Nat) (out:List Int):Prop where
 len:out.length=4*n
 yes: ∀y:Nat,y<4*n->0<=out.getD y 0->out.getD y 0<h/\bH mt jn (out.getD y 0) y/\out.getD (out.getD y 0).toNat 0=out.getD y 0
 clo: ∀a b:Nat,a<4*n->b<4*n->0<=out.getD a 0->bH mt jn a b->out.getD b 0=out.getD a 0
 low: ∀y:Nat,y<h->0<=out.getD y 0
theorem Uh (hi:Inv2 n mt jn): ∀h,h<=4*n->CrI n mt jn h (crN mt jn (4*n) h)
 |0,_=>⟨by simp [crN],fun y hy h=>by simp [crN,hy] at h,fun a b ha _ h=>by simp [crN,ha] at h,fun y hy=>by omega⟩
 |h+1,hh=>by
  have ih:=Uh hi h (by omega);simp only [crN];by_cases hs:0<=(crN mt jn (4*n) h).getD h 0
  ·rw [if_pos hs];refine ⟨ih.len,fun y hy h0=>?_,ih.clo,fun y hy=>?_⟩
   ·obtain ⟨h1,h2,h3⟩:=ih.yes y hy h0;exact ⟨by omega,h2,h3⟩
   ·rcases Nat.lt_or_ge y h with q|q
    ·exact ih.low y q
    ·rwa [show y=h by omega]
  ·rw [if_neg hs];have hR:aA n (h:Int):=by unfold aA;omega
   obtain ⟨k,kk,hk⟩:=(z6 hi).JC hR;generalize crN mt jn (4*n) h=dP at*;have Gu: ∀y:Nat,y<4*n->bH mt jn h y->dP.getD y 0<0:=by
    intro y hy hc;rcases Int.lt_or_le (dP.getD y 0) 0 with q|q
    ·exact q
    ·have:=ih.clo y h hy (by omega) q (hc.symm hi hR);omega
   have gS:=y4c hi (x:=h) (by omega) hk ih.len (fun j hj=>by
    have hr:=(z6 hi).it hR j;have hc:=(Li hi hR hk).1 ⟨j,hj, .inl rfl⟩;unfold aA at hr;refine Gu _ (by omega) ?_;rw [show (((it (fun x=>jn (mt x)) j h).toNat:Nat):Int)=it (fun x=>jn (mt x)) j h by omega];exact hc) k 0 (4*n+1) dP (by omega) (by omega) (by omega) ih.len (fun y hy=>⟨fun ⟨j,hj,_⟩=>by omega,fun _=>rfl⟩)
   have h0:it (fun x=>jn (mt x)) 0 (h:Int)=h:=rfl;rw [h0] at gS;obtain ⟨hlen,gS⟩:=gS;generalize crW mt jn h (4*n+1) dP h=out at*;have df: ∀y:Nat,y<4*n->bH mt jn h y->out.getD y 0=h:=fun y hy hc=>(gS y hy).1 ((Li hi hR hk).2 hc);have lO: ∀y:Nat,y<4*n-> ¬bH mt jn h y->out.getD y 0=dP.getD y 0:=fun y hy hc=>(gS y hy).2 fun ho=>hc ((Li hi hR hk).1 ho)
   refine ⟨hlen,fun y hy h1=>?_,fun a b ha hb h1 lW=>?_,fun y hy=>?_⟩
   ·by_cases hc:bH mt jn h y
    ·rw [df y hy hc];refine ⟨by omega,hc,?_⟩;simp only [Int.toNat_natCast];exact df h (by omega) (.refl _)
    ·rw [lO y hy hc] at h1⊢;obtain ⟨g1,g2,g3⟩:=ih.yes y hy h1;refine ⟨by omega,g2,?_⟩;have hz: ¬bH mt jn h ((dP.getD y 0).toNat:Nat):=by
      intro dh;rw [show (((dP.getD y 0).toNat:Nat):Int)=dP.getD y 0 by omega] at dh;exact hc (dh.trans g2)
     rw [lO _ (by omega) hz];exact g3
   ·by_cases hc:bH mt jn h a
    ·rw [df a ha hc,df b hb (hc.trans lW)]
    ·have qA: ¬bH mt jn h b:=fun qA=>hc (qA.trans (lW.symm hi (by unfold aA;omega)));rw [lO a ha hc] at h1⊢;rw [lO b hb qA];exact ih.clo a b ha hb h1 lW
   ·by_cases hc:bH mt jn h y
    ·rw [df y (by omega) hc];omega
    ·rw [lO y (by omega) hc];rcases Nat.lt_or_ge y h with q|q
     ·exact ih.low y q
     ·exact absurd (by rw [show y=h by omega];exact .refl _) hc
theorem G5 (hi:Inv2 n mt jn):l7 n mt jn (crN mt jn (4*n) (4*n)):=by
 have h:=Uh hi (4*n) (Nat.le_refl _);refine ⟨⟨h.len,fun x hx=>?_,fun x hx=>(h.yes x hx (h.low x hx)).2.2⟩,fun x y hx hy=>⟨fun e=>?_,fun hc=>(h.clo x y hx hy (h.low x hx) hc).symm⟩⟩
 ·have:=(h.yes x hx (h.low x hx)).1;exact ⟨h.low x hx,by omega⟩
 ·have h1:=(h.yes x hx (h.low x hx)).2.1;have h2:=(h.yes y hy (h.low y hy)).2.1;rw [←e] at h2;have h3:=(h.yes x hx (h.low x hx)).1;have h4:=h.low x hx;exact (h1.symm hi (by unfold aA;omega)).trans h2
end
def sv (m:List Int):Nat->List Int
 |0=>(List.range m.length).map (Nat.cast:Nat->Int)
 |k+1=>if (k:Int)<m.getD k 0 then iF (sv m k) k (m.getD k 0).toNat else sv m k
def lH (m:List Int) (ch:Nat->Bool):Nat->List Int
 |0=>sv m m.length
 |k+1=>if ch k then iF (iF (lH m ch k) (4*k+1) (4*k+2)) (4*k+3) (4*k) else iF (iF (lH m ch k) (4*k) (4*k+1)) (4*k+2) (4*k+3)
structure UF (l R:List Int) (N:Nat):Prop where
 rep:l6 R N
 len:l.length=N
 iV: ∀x,x<N->0<=l.getD x 0/\l.getD x 0<N
 same: ∀x,x<N->R.getD (l.getD x 0).toNat 0=R.getD x 0
 root: ∀x:Nat,x<N->(l.getD x 0=x↔R.getD x 0=x)
 rank: ∃rk:Nat->Nat,∀x:Nat,x<N->l.getD x 0≠x->rk (l.getD x 0).toNat<rk x
section
variable {l R:List Int} {N:Nat}
theorem UF.init (N:Nat):UF ((List.range N).map (Nat.cast:Nat->Int)) ((List.range N).map (Nat.cast:Nat->Int)) N:=by
 have hg: ∀x,x<N->((List.range N).map (Nat.cast:Nat->Int)).getD x 0=x:=fun x hx=>by simp [hx]
 exact ⟨⟨by simp,fun x hx=>by rw [hg x hx];omega,fun x hx=>by rw [hg x hx];simpa using hg x hx⟩,by simp,fun x hx=>by rw [hg x hx];omega,fun x hx=>by rw [hg x hx];simpa using hg x hx,
  fun x hx=>by rw [hg x hx],fun x=>x,fun x hx hn=>absurd (hg x hx) hn⟩
end
theorem HG (k:Nat):aF true ((4*k:Nat):Int)=((4*k+3:Nat):Int)/\aF true ((4*k+1:Nat):Int)=((4*k+2:Nat):Int)/\aF true ((4*k+2:Nat):Int)=((4*k+1:Nat):Int)/\aF true ((4*k+3:Nat):Int)=((4*k:Nat):Int)/\
  aF false ((4*k:Nat):Int)=((4*k+1:Nat):Int)/\aF false ((4*k+1:Nat):Int)=((4*k:Nat):Int)/\aF false ((4*k+2:Nat):Int)=((4*k+3:Nat):Int)/\aF false ((4*k+3:Nat):Int)=((4*k+2:Nat):Int):=by
 have o: ∀x:Int,x % 2=1->aF true x=x-x % 4+(x % 4+5)% 4/\aF false x=x-x % 4+(x % 4+3)% 4:=fun x h=>by
  unfold aF;rw [tK,sH,decide_eq_true h];exact ⟨if_pos rfl,if_neg (by simp)⟩
 have e: ∀x:Int,¬x % 2=1->aF true x=x-x % 4+(x % 4+3)% 4/\aF false x=x-x % 4+(x % 4+5)% 4:=fun x h=>by
  unfold aF;rw [tK,sH,decide_eq_false h];exact ⟨if_neg (by simp),if_pos rfl⟩
 rw [(e _ (by omega)).1,(o _ (by omega)).1,(e _ (by omega)).1,(o _ (by omega)).1,(e _ (by omega)).2,(o _ (by omega)).2,(e _ (by omega)).2,(o _ (by omega)).2];omega
theorem Dg {m:List Int} {n:Nat} (hp:pf m n) (wQ: ∀x:Nat,x<4*n->m.getD (m.getD x 0).toNat 0=x) (wS: ∀x:Nat,x<4*n->m.getD x 0≠x) (ch:Nat->Bool):Inv2 n (fun x=>m.getD x.toNat 0) (fun x=>aF (ch (x/4).toNat) x):=by
 have iX:=hp.1;refine ⟨fun x hx=>?_,fun x hx=>?_,fun x hx=>?_,fun x hx=>?_,fun x hx=>?_,fun x _=>KZ _ x⟩
 ·unfold aA at*
  have:=hp.2 x.toNat (by omega)
  omega
 ·unfold aA at*;have h1:=qc (ch (x/4).toNat) x;omega
 ·unfold aA at hx
  have:=wQ x.toNat (by omega)
  show m.getD (m.getD x.toNat 0).toNat 0=x;rw [this];omega
 ·show aF (ch (aF (ch (x/4).toNat) x/4).toNat) (aF (ch (x/4).toNat) x)=x;rw [qc,uC]
 ·unfold aA at hx
  have:=wS x.toNat (by omega)
  show m.getD x.toNat 0≠x;omega
section
variable {n:Nat} {mt jn:Int->Int} {R:List Int}
theorem Mi (hi:Inv2 n mt jn) (hR:l6 R (4*n)) (h1: ∀x y:Nat,x<4*n->y<4*n->R.getD x 0=R.getD y 0->bH mt jn x y) {g h:Nat} (hg:g<4*n) (hh:h<4*n) (Cc:bH mt jn g h):
  ∀x y:Nat,x<4*n->y<4*n->(iF R g h).getD x 0=(iF R g h).getD y 0->bH mt jn x y:=by
 intro x y hx hy e;have ir: ∀z:Nat,z<4*n->aA n (z:Int):=fun z hz=>by unfold aA;omega
 rw [tO hR.len hx,tO hR.len hy] at e;by_cases c1:R.getD x 0=R.getD g 0
 ·rw [if_pos c1] at e;by_cases c2:R.getD y 0=R.getD g 0
  ·exact h1 x y hx hy (c1.trans c2.symm)
  ·rw [if_neg c2] at e;exact ((h1 x g hx hg c1).trans Cc).trans (h1 h y hh hy e)
 ·rw [if_neg c1] at e;by_cases c2:R.getD y 0=R.getD g 0
  ·rw [if_pos c2] at e;exact ((h1 x h hx hh e).trans (Cc.symm hi (ir g hg))).trans (h1 g y hg hy c2.symm)
  ·rw [if_neg c2] at e;exact h1 x y hx hy e
end
section
variable {m:List Int} {n:Nat} {ch:Nat->Bool}
theorem Si (hp:pf m n) (hi:Inv2 n (fun x=>m.getD x.toNat 0) (fun x=>aF (ch (x/4).toNat) x)): ∀k,k<=4*n->l6 (sv m k) (4*n)/\
  (∀x y:Nat,x<4*n->y<4*n->(sv m k).getD x 0=(sv m k).getD y 0->bH (fun x=>m.getD x.toNat 0) (fun x=>aF (ch (x/4).toNat) x) x y)/\
  (∀x:Nat,x<k->(x:Int)<m.getD x 0->(sv m k).getD (m.getD x 0).toNat 0=(sv m k).getD x 0)
 |0,_=>by
  have iX:=hp.1;have hu:=(UF.init (4*n)).rep;refine ⟨by simp only [sv,iX];exact hu,fun x y hx hy e=>?_,fun x hx=>by omega⟩
  have:(x:Int)=y:=by simpa [sv,iX,hx,hy] using e
  have:x=y:=by omega
  subst this;exact .refl _
 |k+1,hk=>by
  obtain ⟨i1,i2,i3⟩:=Si hp hi k (by omega);have iX:=hp.1;have p6:=hp.2 k (by omega);by_cases ay:(k:Int)<m.getD k 0
  ·have e:sv m (k+1)=iF (sv m k) k (m.getD k 0).toNat:=by simp only [sv,if_pos ay]
   rw [e];have hy:(m.getD k 0).toNat<4*n:=by omega
   have hc:bH (fun x=>m.getD x.toNat 0) (fun x=>aF (ch (x/4).toNat) x) (k:Int) ((m.getD k 0).toNat:Int):=by
    have:=bH.mate (mt:=fun x=>m.getD x.toNat 0) (jn:=fun x=>aF (ch (x/4).toNat) x) (bH.refl (k:Int))
    simp only [Int.toNat_natCast] at this;rw [show ((m.getD k 0).toNat:Int)=m.getD k 0 by omega];exact this
   refine ⟨I9 i1 (by omega) hy,Mi hi i1 i2 (by omega) hy hc,fun x hx JX=>?_⟩;by_cases ex:x=k
   ·subst ex;exact (Jj i1.len (by omega) hy).symm
   ·have hmx:=hp.2 x (by omega);exact Bl i1.len (by omega) (by omega) (i3 x (by omega) JX)
  ·have e:sv m (k+1)=sv m k:=by simp only [sv,if_neg ay]
   rw [e];refine ⟨i1,i2,fun x hx JX=>?_⟩;by_cases ex:x=k
   ·subst ex;exact absurd JX ay
   ·exact i3 x (by omega) JX
theorem Sg (hp:pf m n) (wQ: ∀x:Nat,x<4*n->m.getD (m.getD x 0).toNat 0=x) (wS: ∀x:Nat,x<4*n->m.getD x 0≠x): ∀k,k<=n->l6 (lH m ch k) (4*n)/\
  (∀x y:Nat,x<4*n->y<4*n->(lH m ch k).getD x 0=(lH m ch k).getD y 0->bH (fun x=>m.getD x.toNat 0) (fun x=>aF (ch (x/4).toNat) x) x y)/\
  (∀x:Nat,x<4*n->(lH m ch k).getD (m.getD x 0).toNat 0=(lH m ch k).getD x 0)/\
  (∀x:Nat,x<4*k->(lH m ch k).getD (aF (ch (x/4)) x).toNat 0=(lH m ch k).getD x 0)
 |0,_=>by
  have hi:=Dg hp wQ wS ch;have iX:=hp.1;obtain ⟨i1,i2,i3⟩:=Si (ch:=ch) hp hi (4*n) (Nat.le_refl _);simp only [lH,iX];refine ⟨i1,i2,fun x hx=>?_,fun x hx=>by omega⟩;have p6:=hp.2 x (by omega);have ax:=wS x hx;by_cases ay:(x:Int)<m.getD x 0
  ·exact i3 x hx ay
  ·have h2:=wQ x hx
   have:=i3 (m.getD x 0).toNat (by omega) (by rw [h2];omega)
   rw [h2,Int.toNat_natCast] at this;exact this.symm
 |k+1,hk=>by
  have hi:=Dg hp wQ wS ch;have iX:=hp.1;obtain ⟨i1,i2,i3,i4⟩:=Sg hp wQ wS k (by omega);have mW: ∀x:Nat,bH (fun x=>m.getD x.toNat 0) (fun x=>aF (ch (x/4).toNat) x) (x:Int) (aF (ch (x/4)) x):=fun x=>by
   have:=bH.join (mt:=fun x=>m.getD x.toNat 0) (jn:=fun x=>aF (ch (x/4).toNat) x) (bH.refl (x:Int))
   rw [show ((x:Int)/4).toNat=x/4 by omega] at this;exact this
  have gen: ∀a b c d:Nat,a<4*n->b<4*n->c<4*n->d<4*n->aF (ch (a/4)) a=b->aF (ch (c/4)) c=d->(∀x:Nat,x/4=k->(x=a\/x=b\/x=c\/x=d))->aF (ch (b/4)) b=a->aF (ch (d/4)) d=c->
   lH m ch (k+1)=iF (iF (lH m ch k) a b) c d->l6 (lH m ch (k+1)) (4*n)/\
   (∀x y:Nat,x<4*n->y<4*n->(lH m ch (k+1)).getD x 0=(lH m ch (k+1)).getD y 0->bH (fun x=>m.getD x.toNat 0) (fun x=>aF (ch (x/4).toNat) x) x y)/\
   (∀x:Nat,x<4*n->(lH m ch (k+1)).getD (m.getD x 0).toNat 0=(lH m ch (k+1)).getD x 0)/\
   (∀x:Nat,x<4*(k+1)->(lH m ch (k+1)).getD (aF (ch (x/4)) x).toNat 0=(lH m ch (k+1)).getD x 0):=by
   intro a b c d ha hb hc hd e1 e2 uM e3 e4 eM;rw [eM];have r1:=I9 i1 ha hb;have c1:=Mi hi i1 i2 ha hb (by rw [←e1];exact mW a);refine ⟨I9 r1 hc hd,Mi hi r1 c1 hc hd (by rw [←e2];exact mW c),fun x hx=>?_,fun x hx=>?_⟩
   ·have p6:=hp.2 x (by omega);exact Bl r1.len (by omega) hx (Bl i1.len (by omega) hx (i3 x hx))
   ·by_cases FQ:x/4=k
    ·have p1:=Bl r1.len (g:=c) (h:=d) ha hb (Jj i1.len ha hb);have p2:=Jj (N:=4*n) (R:=iF (lH m ch k) a b) r1.len hc hd;rcases uM x FQ with rfl|rfl|rfl|rfl
     ·rw [e1,Int.toNat_natCast];exact p1.symm
     ·rw [e3,Int.toNat_natCast];exact p1
     ·rw [e2,Int.toNat_natCast];exact p2.symm
     ·rw [e4,Int.toNat_natCast];exact p2
    ·have hj:=qc (ch (x/4)) x;exact Bl r1.len (by omega) (by omega) (Bl i1.len (by omega) (by omega) (i4 x (by omega)))
  have d0:(4*k)/4=k:=by omega
  have d1:(4*k+1)/4=k:=by omega
  have d2:(4*k+2)/4=k:=by omega
  have d3:(4*k+3)/4=k:=by omega
  obtain ⟨t0,t1,t2,t3,f0,f1,f2,f3⟩:=HG k;cases oF:ch k with
  |true=>
   exact gen (4*k+1) (4*k+2) (4*k+3) (4*k) (by omega) (by omega) (by omega) (by omega) (by rw [d1,oF];exact t1) (by rw [d3,oF];exact t3) (fun x hx=>by omega) (by rw [d2,oF];exact t2) (by rw [d0,oF];exact t0) (by simp only [lH,oF,if_true])
  |false=>
   exact gen (4*k) (4*k+1) (4*k+2) (4*k+3) (by omega) (by omega) (by omega) (by omega) (by rw [d0,oF];exact f0) (by rw [d2,oF];exact f2) (fun x hx=>by omega) (by rw [d1,oF];exact f1) (by rw [d3,oF];exact f3) (by simp only [lH,oF];rfl)
theorem HE (hp:pf m n) (wQ: ∀x:Nat,x<4*n->m.getD (m.getD x 0).toNat 0=x) (wS: ∀x:Nat,x<4*n->m.getD x 0≠x):l7 n (fun x=>m.getD x.toNat 0) (fun x=>aF (ch (x/4).toNat) x) (lH m ch n):=by
 obtain ⟨i1,i2,i3,i4⟩:=Sg (ch:=ch) hp wQ wS n (Nat.le_refl _);refine l7.of (Dg hp wQ wS ch) i1 i2 (fun x hx=>by simp only [Int.toNat_natCast];exact i3 x hx) (fun x hx=>?_)
 have:=i4 x hx
 rw [show ((x:Int)/4).toNat=x/4 by omega];exact this
end
end Go.Proofs.YtjpbeacamoijhaaGreatDoor
