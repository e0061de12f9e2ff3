/- Plain: circles of a state (for the bracket). -/
import Derived.Test.YtjpbeacamoijhaaGreatDoorPl
import Derived.Test.YtjpbeacamoijhaaGreatDoorZa
set_option linter.unusedSimpArgs false
set_option linter.unusedVariables false
namespace Go.Proofs.YtjpbeacamoijhaaGreatDoor
def iI (R:List Int) (g h:Nat):List Int:=if R.getD g 0=R.getD h 0 then R else R.map fun r=>if r=R.getD g 0 then R.getD h 0 else r
def roots (R:List Int):Nat:=(List.range R.length).countP fun x=>R.getD x 0==(x:Int)
structure mW (R:List Int) (N:Nat):Prop where
 len:R.length=N
 iP: ∀x,x<N->0<=R.getD x 0/\R.getD x 0<N
 idem: ∀x,x<N->R.getD (R.getD x 0).toNat 0=R.getD x 0
theorem yup {α β:Type} (l:List α) (f:α->β) (i:Nat) (d:α) (e:β) (h:i<l.length):(l.map f).getD i e=f (l.getD i d):=by simp [h]
section
variable {R:List Int} {N:Nat}
theorem UA (R:List Int) (g h:Nat):(iI R g h).length=R.length:=by unfold iI;split<;>simp
theorem rO (hl:R.length=N) {g h x:Nat} (hx:x<N):(iI R g h).getD x 0=if R.getD x 0=R.getD g 0 then R.getD h 0 else R.getD x 0:=by
 unfold iI
 split
 ·rename_i e;split
  ·omega
  ·rfl
 ·rw [yup _ _ _ 0 _ (by omega)]
theorem Fv (hR:mW R N) {g h:Nat} (hg:g<N) (hh:h<N):mW (iI R g h) N:=by
 refine ⟨by rw [UA];exact hR.len,fun x hx=>?_,fun x hx=>?_⟩
 ·rw [rO hR.len hx];have:=hR.iP x hx;have:=hR.iP h hh;split<;>omega
 ·rw [rO hR.len hx];have r1:=hR.iP x hx;have r2:=hR.iP h hh;by_cases e:R.getD x 0=R.getD g 0
  ·rw [zzJ e,rO hR.len (by omega),hR.idem h hh];split<;>rfl
  ·rw [zzI e,rO hR.len (by omega),hR.idem x hx,zzI e]
theorem zN (hl:R.length=N) {g h x y:Nat} (hx:x<N) (hy:y<N) (e:R.getD x 0=R.getD y 0):(iI R g h).getD x 0=(iI R g h).getD y 0:=by
 rw [rO hl hx,rO hl hy,e]
theorem Kf (hl:R.length=N) {g h:Nat} (hg:g<N) (hh:h<N):(iI R g h).getD g 0=(iI R g h).getD h 0:=by
 rw [rO hl hg,rO hl hh,zzJ rfl];split<;>rfl
theorem yuq (p q:Nat->Bool) (N a:Nat) (ha:a<N) (h1:p a=true) (h2:q a=false) (h: ∀x,x<N->x≠a->p x=q x):(List.range N).countP p=(List.range N).countP q+1:=by
 induction N with
 |zero=>omega
 |succ N ih=>
  rw [List.range_succ,List.countP_append,List.countP_append];by_cases e:a=N
  ·subst e
   have:(List.range a).countP p=(List.range a).countP q:=List.countP_congr fun x hx=>by
    have:=List.mem_range.1 hx
    rw [h x (by omega) (by omega)]
   simp [this,h1,h2]
  ·have:=ih (by omega) (fun x hx hn=>h x (by omega) hn)
   have e2:=h N (by omega) (by omega);simp only [List.countP_cons,List.countP_nil,e2];omega
theorem Vo (hR:mW R N) {g h:Nat} (hg:g<N) (hh:h<N) (aA:R.getD g 0≠R.getD h 0):roots R=roots (iI R g h)+1:=by
 have r1:=hR.iP g hg;unfold roots;rw [UA];have hl:=hR.len;refine yuq _ _ R.length (R.getD g 0).toNat (by omega) ?_ ?_ ?_
 ·rw [hR.idem g hg];simp only [beq_iff_eq];omega
 ·rw [rO hR.len (by omega),hR.idem g hg,zzJ rfl];simp only [zzU,ne_eq];omega
 ·intro x hx hn;rw [rO hR.len (by omega)];by_cases e:R.getD x 0=R.getD g 0
  ·rw [zzJ e,e];have e1:(R.getD g 0==(x:Int))=false:=by simp only [zzU,ne_eq];omega
   have e2:(R.getD h 0==(x:Int))=false:=by
    simp only [zzU,ne_eq];intro e3
    have:=hR.idem h hh
    rw [e3] at this;simp only [zzC] at this;omega
   rw [e1,e2]
  ·rw [zzI e]
end
structure Inv2 (n:Nat) (mt jn:Int->Int):Prop where
 mr: ∀x,av n x->av n (mt x)
 jr: ∀x,av n x->av n (jn x)
 mm: ∀x,av n x->mt (mt x)=x
 jj: ∀x,av n x->jn (jn x)=x
 mf: ∀x,av n x->mt x≠x
 jf: ∀x,av n x->jn x≠x
inductive aX (mt jn:Int->Int):Int->Int->Prop
 |refl (x:Int):aX mt jn x x
 |mate {x y:Int} (h:aX mt jn x y):aX mt jn x (mt y)
 |join {x y:Int} (h:aX mt jn x y):aX mt jn x (jn y)
section
variable {n:Nat} {mt jn:Int->Int}
theorem aX.trans {x y z:Int} (h1:aX mt jn x y) (h2:aX mt jn y z):aX mt jn x z:=by
 induction h2 with
 |refl=>exact h1
 |mate _ ih=>exact .mate ih
 |join _ ih=>exact .join ih
theorem aX.iP (hi:Inv2 n mt jn) {x y:Int} (h:aX mt jn x y) (hx:av n x):av n y:=by
 induction h with
 |refl=>exact hx
 |mate _ ih=>exact hi.mr _ ih
 |join _ ih=>exact hi.jr _ ih
theorem aX.symm (hi:Inv2 n mt jn) {x y:Int} (h:aX mt jn x y) (hx:av n x):aX mt jn y x:=by
 induction h with
 |refl=>exact .refl _
 | @mate y h ih=>
   have h1:=aX.mate (mt:=mt) (jn:=jn) (aX.refl (mt y));rw [hi.mm y (h.iP hi hx)] at h1;exact h1.trans ih
 | @join y h ih=>
   have h1:=aX.join (mt:=mt) (jn:=jn) (aX.refl (jn y));rw [hi.jj y (h.iP hi hx)] at h1;exact h1.trans ih
structure j9 (n:Nat) (mt jn:Int->Int) (R:List Int):Prop where
 rep:mW R (4*n)
 iff: ∀x y:Nat,x<4*n->y<4*n->(R.getD x 0=R.getD y 0↔aX mt jn x y)
theorem j9.of {R:List Int} (hi:Inv2 n mt jn) (hR:mW R (4*n)) (h1: ∀x y:Nat,x<4*n->y<4*n->R.getD x 0=R.getD y 0->aX mt jn x y)
  (h2: ∀x:Nat,x<4*n->R.getD (mt x).toNat 0=R.getD x 0) (h3: ∀x:Nat,x<4*n->R.getD (jn x).toNat 0=R.getD x 0):j9 n mt jn R:=by
 refine ⟨hR,fun x y hx hy=>⟨h1 x y hx hy,fun h=>?_⟩⟩;have key: ∀z,aX mt jn x z->R.getD z.toNat 0=R.getD x 0:=by
  intro z hz
  induction hz with
  |refl=>simp
  | @mate y h ih=>
    have:=h.iP hi (by unfold av;omega)
    unfold av at this;have h4:=h2 y.toNat (by omega);rw [show ((y.toNat:Nat):Int)=y by omega] at h4;rw [h4,ih]
  | @join y h ih=>
    have:=h.iP hi (by unfold av;omega)
    unfold av at this;have h4:=h3 y.toNat (by omega);rw [show ((y.toNat:Nat):Int)=y by omega] at h4;rw [h4,ih]
 have:=key y h
 simpa using this.symm
theorem Ks: ∀{l k:List Nat},l.Nodup->(∀x∈l,x∈k)->l.length<=k.length
 |[],_,_,_=>Nat.zero_le _
 |x::l,k,hn,hs=>by
  have hx:=hs x (by simp);obtain ⟨jD,zo⟩:=List.nodup_cons.1 hn
  have:=Ks (l:=l) (k:=k.erase x) zo (fun y hy=>(List.mem_erase_of_ne (by intro e;subst e;exact jD hy)).2 (hs y (by simp [hy])))
  have h2:=List.length_erase_of_mem hx;have h3:=List.length_pos_of_mem hx;simp only [zzG];omega
theorem JO {R L:List Int} (hR:mW R (4*n)) (hL:mW L (4*n)) (h: ∀x y:Nat,x<4*n->y<4*n->(R.getD x 0=R.getD y 0↔L.getD x 0=L.getD y 0)):roots L<=roots R:=by
 unfold roots;rw [List.countP_eq_length_filter,List.countP_eq_length_filter];have hlen:((List.range L.length).filter fun x=>L.getD x 0==(x:Int)).length=(((List.range L.length).filter fun x=>L.getD x 0==(x:Int)).map fun x=>(R.getD x 0).toNat).length:=by simp
 rw [hlen];refine Ks ?_ ?_
 ·rw [List.nodup_iff_pairwise_ne,List.pairwise_map];refine List.Pairwise.imp_of_mem ?_ (List.nodup_iff_pairwise_ne.1 (List.Nodup.sublist List.filter_sublist List.nodup_range));intro a b ha hb aA e;simp only [List.mem_filter,List.mem_range,beq_iff_eq,hL.len] at ha hb;have r1:=hR.iP a (by omega);have r2:=hR.iP b (by omega)
  have:=(h a b (by omega) (by omega)).1 (by omega)
  omega
 ·intro x hx;simp only [List.mem_map,List.mem_filter,List.mem_range,beq_iff_eq,hL.len] at hx;obtain ⟨a,⟨ha,_⟩,rfl⟩:=hx;have r1:=hR.iP a (by omega)
  have:=hR.idem a (by omega)
  simp only [List.mem_filter,List.mem_range,beq_iff_eq,hR.len];omega
theorem TD {R L:List Int} (hR:j9 n mt jn R) (hL:j9 n mt jn L):roots R=roots L:=
 Nat.le_antisymm (JO hL.rep hR.rep fun x y hx hy=>by rw [hL.iff x y hx hy,hR.iff x y hx hy]) (JO hR.rep hL.rep fun x y hx hy=>by rw [hL.iff x y hx hy,hR.iff x y hx hy])
theorem zI (hi:Inv2 n mt jn):Perm (fun x=>jn (mt x)) (4*n) (av n):=
 ⟨fun x hx=>by unfold av at hx;omega,fun x hx=>hi.jr _ (hi.mr _ hx),fun x y hx hy e=>by
  have h1:=congrArg jn e;rw [hi.jj _ (hi.mr _ hx),hi.jj _ (hi.mr _ hy)] at h1;have h2:=congrArg mt h1;rwa [hi.mm _ hx,hi.mm _ hy] at h2⟩
theorem MT (hi:Inv2 n mt jn) {x:Int} (hx:av n x): ∀d i j,i+d=j->it (fun x=>jn (mt x)) j x≠mt (it (fun x=>jn (mt x)) i x)/\it (fun x=>jn (mt x)) i x≠mt (it (fun x=>jn (mt x)) j x):=by
 have hR: ∀j,av n (it (fun x=>jn (mt x)) j x):=fun j=>(zI hi).it hx j;have Hk: ∀i j,it (fun x=>jn (mt x)) j x=mt (it (fun x=>jn (mt x)) i x)->it (fun x=>jn (mt x)) i x=mt (it (fun x=>jn (mt x)) j x):=fun i j e=>by rw [e,hi.mm _ (hR i)]
 intro d
 induction d using Nat.strongRecOn with
 |_ d ih=>
  intro i j hd;have key:it (fun x=>jn (mt x)) j x≠mt (it (fun x=>jn (mt x)) i x):=by
   intro e;by_cases h0:d=0
   ·obtain rfl:j=i:=by omega
    exact hi.mf _ (hR j) e.symm
   ·by_cases h1:d=1
    ·obtain rfl:j=i+1:=by omega
     exact hi.jf _ (hi.mr _ (hR i)) e
    ·--shift both towards each other
     have e2:it (fun x=>jn (mt x)) (i+1) x=mt (it (fun x=>jn (mt x)) (j-1) x):=by
      show jn (mt (it (fun x=>jn (mt x)) i x))=_;rw [<-e]
      conv=>lhs;rw [show j=(j-1)+1 by omega]
      exact hi.jj _ (hi.mr _ (hR (j-1)))
     exact (ih (d-2) (by omega) (i+1) (j-1) (by omega)).2 e2
  exact ⟨key,fun e=>key (Hk j i e)⟩
def crW (mt jn:Int->Int) (h:Int):Nat->List Int->Int->List Int
 |0,out,_=>out
 |f+1,out,g=>if out.getD g.toNat 0<0 then crW mt jn h f ((out.set g.toNat h).set (mt g).toNat h) (jn (mt g)) else out
def crN (mt jn:Int->Int) (N:Nat):Nat->List Int
 |0=>List.replicate N (-1)
 |h+1=>if 0<=(crN mt jn N h).getD h 0 then crN mt jn N h else crW mt jn h (N+1) (crN mt jn N h) h
def Em (mt jn:Int->Int) (x:Int) (k:Nat) (y:Int):Prop:= ∃j,j<k/\(y=it (fun x=>jn (mt x)) j x\/y=mt (it (fun x=>jn (mt x)) j x))
theorem y4z (hi:Inv2 n mt jn) {x:Nat} (hx:x<4*n) {k:Nat} (hk:uW (fun x=>jn (mt x)) x k) {eH:List Int} (C3:eH.length=4*n)
  (hu: ∀j,j<k->eH.getD (it (fun x=>jn (mt x)) j x).toNat 0<0):
  ∀d j f (out:List Int),d=k-j->j<=k->d<f->out.length=4*n->(∀y:Nat,y<4*n->(Em mt jn x j y->out.getD y 0=x)/\(¬Em mt jn x j y->out.getD y 0=eH.getD y 0))->
  (crW mt jn x f out (it (fun x=>jn (mt x)) j x)).length=4*n/\ ∀y:Nat,y<4*n->(Em mt jn x k y->(crW mt jn x f out (it (fun x=>jn (mt x)) j x)).getD y 0=x)/\(¬Em mt jn x k y->(crW mt jn x f out (it (fun x=>jn (mt x)) j x)).getD y 0=eH.getD y 0):=by
 have jD:av n (x:Int):=by unfold av;omega
 have hR: ∀j,av n (it (fun x=>jn (mt x)) j x):=fun j=>(zI hi).it jD j;have xE:=hk.pos;intro d
 induction d with
 |zero=>
  intro j f out hd hj hf hl hy;obtain rfl:j=k:=by omega
  obtain ⟨f',rfl⟩: ∃f',f=f'+1:=⟨f-1,by omega⟩;have e:out.getD (it (fun x=>jn (mt x)) j x).toNat 0=x:=by
   rw [hk.back];exact (hy x hx).1 ⟨0,xE, .inl rfl⟩
  unfold crW;rw [zzI (by omega)];exact ⟨hl,hy⟩
 |succ d ih=>
  intro j f out hd hj hf hl hy;obtain ⟨f',rfl⟩: ∃f',f=f'+1:=⟨f-1,by omega⟩;have r1:=hR j;have r2:=hi.mr _ (hR j);unfold av at r1 r2;have qa: ¬Em mt jn x j (it (fun x=>jn (mt x)) j x):=by
   rintro ⟨i,kB,e|e⟩
   ·have:=(zI hi).cancel jD i (j-i) (by rw [show i+(j-i)=j by omega];exact e)
    exact hk.first (j-i) (by omega) (by omega) this
   ·exact (MT hi jD (j-i) i j (by omega)).1 e
  have e:out.getD (it (fun x=>jn (mt x)) j x).toNat 0<0:=by
   have h1:=(hy (it (fun x=>jn (mt x)) j x).toNat (by omega)).2;rw [show (((it (fun x=>jn (mt x)) j x).toNat:Nat):Int)=it (fun x=>jn (mt x)) j x by omega] at h1;rw [h1 qa];exact hu j (by omega)
  unfold crW;rw [zzJ e];refine ih (j+1) f' _ (by omega) (by omega) (by omega) (by simp [hl]) fun y XY=>?_;have hset:((out.set (it (fun x=>jn (mt x)) j x).toNat x).set (mt (it (fun x=>jn (mt x)) j x)).toNat x).getD y 0=if (y:Int)=it (fun x=>jn (mt x)) j x\/(y:Int)=mt (it (fun x=>jn (mt x)) j x) then (x:Int) else out.getD y 0:=by
   by_cases e1:(mt (it (fun x=>jn (mt x)) j x)).toNat=y
   ·rw [e1,nY (by simp [hl];omega),zzJ (.inr (by omega))]
   ·rw [nZ e1];by_cases e2:(it (fun x=>jn (mt x)) j x).toNat=y
    ·rw [e2,nY (by omega),zzJ (.inl (by omega))]
    ·rw [nZ e2,zzI (by omega)]
  rw [hset];constructor
  ·rintro ⟨i,kB,sW⟩;rcases zzV i j with q|q
   ·split
    ·rfl
    ·exact (hy y XY).1 ⟨i,q,sW⟩
   ·obtain rfl:i=j:=by omega
    rw [zzJ sW]
  ·intro eJ;rw [zzI fun sW=>eJ ⟨j,by omega,sW⟩];exact (hy y XY).2 fun ⟨i,kB,sW⟩=>eJ ⟨i,by omega,sW⟩
theorem Jx (hi:Inv2 n mt jn) {x:Int} (hx:av n x) {k:Nat} (hk:uW (fun x=>jn (mt x)) x k) {y:Int}:Em mt jn x k y↔aX mt jn x y:=by
 have hR: ∀j,av n (it (fun x=>jn (mt x)) j x):=fun j=>(zI hi).it hx j;have xE:=hk.pos;constructor
 ·rintro ⟨j,hj,h⟩;have hc: ∀j,aX mt jn x (it (fun x=>jn (mt x)) j x):=by
   intro j
   induction j with
   |zero=>exact .refl _
   |succ j ih=>exact .join (.mate ih)
  rcases h with rfl|rfl
  ·exact hc j
  ·exact .mate (hc j)
 ·intro h
  induction h with
  |refl=>exact ⟨0,xE, .inl rfl⟩
  |mate _ ih=>
   obtain ⟨j,hj,h⟩:=ih;rcases h with rfl|rfl
   ·exact ⟨j,hj, .inr rfl⟩
   ·exact ⟨j,hj, .inl (hi.mm _ (hR j))⟩
  |join _ ih=>
   obtain ⟨j,hj,h⟩:=ih;rcases h with rfl|rfl
   ·--jn of the j-th is the mate of the one before
    by_cases h0:j=0
    ·subst h0;refine ⟨k-1,by omega, .inr ?_⟩
     have:it (fun x=>jn (mt x)) ((k-1)+1) x=x:=by rw [show (k-1)+1=k by omega];exact hk.back
     have h2:jn (mt (it (fun x=>jn (mt x)) (k-1) x))=x:=this;show jn x=_;rw [<-h2,hi.jj _ (hi.mr _ (hR _)),h2]
    ·refine ⟨j-1,by omega, .inr ?_⟩
     conv=>lhs;rw [show j=(j-1)+1 by omega]
     exact hi.jj _ (hi.mr _ (hR (j-1)))
   ·by_cases h1:j+1<k
    ·exact ⟨j+1,h1, .inl rfl⟩
    ·refine ⟨0,xE, .inl ?_⟩
     have:it (fun x=>jn (mt x)) (j+1) x=x:=by rw [show j+1=k by omega];exact hk.back
     exact this
structure CrI (n:Nat) (mt jn:Int->Int) (h:Nat) (out:List Int):Prop where
 len:out.length=4*n
 yes: ∀y:Nat,y<4*n->0<=out.getD y 0->out.getD y 0<h/\aX mt jn (out.getD y 0) y/\out.getD (out.getD y 0).toNat 0=out.getD y 0
 clo: ∀a b:Nat,a<4*n->b<4*n->0<=out.getD a 0->aX mt jn a b->out.getD b 0=out.getD a 0
 low: ∀y:Nat,y<h->0<=out.getD y 0
theorem VQ (hi:Inv2 n mt jn): ∀h,h<=4*n->CrI n mt jn h (crN mt jn (4*n) h)
 |0,_=>⟨by simp [crN],fun y hy h=>by simp [crN,hy] at h,fun a b ha _ h=>by simp [crN,ha] at h,fun y hy=>by omega⟩
 |h+1,hh=>by
  have ih:=VQ hi h (by omega);simp only [crN];by_cases hs:0<=(crN mt jn (4*n) h).getD h 0
  ·rw [zzJ hs];refine ⟨ih.len,fun y hy h0=>?_,ih.clo,fun y hy=>?_⟩
   ·obtain ⟨h1,h2,h3⟩:=ih.yes y hy h0;exact ⟨by omega,h2,h3⟩
   ·rcases zzV y h with q|q
    ·exact ih.low y q
    ·rwa [show y=h by omega]
  ·rw [zzI hs];have hR:av n (h:Int):=by unfold av;omega
   obtain ⟨k,kX,hk⟩:=(zI hi).Gb hR;generalize crN mt jn (4*n) h=eH at*;have Hj: ∀y:Nat,y<4*n->aX mt jn h y->eH.getD y 0<0:=by
    intro y hy hc;rcases Int.lt_or_le (eH.getD y 0) 0 with q|q
    ·exact q
    ·have:=ih.clo y h hy (by omega) q (hc.symm hi hR);omega
   have iw:=y4z hi (x:=h) (by omega) hk ih.len (fun j hj=>by
    have hr:=(zI hi).it hR j;have hc:=(Jx hi hR hk).1 ⟨j,hj, .inl rfl⟩;unfold av at hr;refine Hj _ (by omega) ?_;rw [show (((it (fun x=>jn (mt x)) j h).toNat:Nat):Int)=it (fun x=>jn (mt x)) j h by omega];exact hc) k 0 (4*n+1) eH (by omega) (by omega) (by omega) ih.len (fun y hy=>⟨fun ⟨j,hj,_⟩=>by omega,fun _=>rfl⟩)
   have h0:it (fun x=>jn (mt x)) 0 (h:Int)=h:=rfl;rw [h0] at iw;obtain ⟨hlen,iw⟩:=iw;generalize crW mt jn h (4*n+1) eH h=out at*;have dA: ∀y:Nat,y<4*n->aX mt jn h y->out.getD y 0=h:=fun y hy hc=>(iw y hy).1 ((Jx hi hR hk).2 hc);have qP: ∀y:Nat,y<4*n-> ¬aX mt jn h y->out.getD y 0=eH.getD y 0:=fun y hy hc=>(iw y hy).2 fun ho=>hc ((Jx hi hR hk).1 ho)
   refine ⟨hlen,fun y hy h1=>?_,fun a b ha hb h1 mQ=>?_,fun y hy=>?_⟩
   ·by_cases hc:aX mt jn h y
    ·rw [dA y hy hc];refine ⟨by omega,hc,?_⟩;simp only [zzC];exact dA h (by omega) (.refl _)
    ·rw [qP y hy hc] at h1⊢;obtain ⟨g1,g2,g3⟩:=ih.yes y hy h1;refine ⟨by omega,g2,?_⟩;have hz: ¬aX mt jn h ((eH.getD y 0).toNat:Nat):=by
      intro dE;rw [show (((eH.getD y 0).toNat:Nat):Int)=eH.getD y 0 by omega] at dE;exact hc (dE.trans g2)
     rw [qP _ (by omega) hz];exact g3
   ·by_cases hc:aX mt jn h a
    ·rw [dA a ha hc,dA b hb (hc.trans mQ)]
    ·have qX: ¬aX mt jn h b:=fun qX=>hc (qX.trans (mQ.symm hi (by unfold av;omega)));rw [qP a ha hc] at h1⊢;rw [qP b hb qX];exact ih.clo a b ha hb h1 mQ
   ·by_cases hc:aX mt jn h y
    ·rw [dA y (by omega) hc];omega
    ·rw [qP y (by omega) hc];rcases zzV y h with q|q
     ·exact ih.low y q
     ·exact absurd (by rw [show y=h by omega];exact .refl _) hc
theorem H9 (hi:Inv2 n mt jn):j9 n mt jn (crN mt jn (4*n) (4*n)):=by
 have h:=VQ hi (4*n) (zzA _);refine ⟨⟨h.len,fun x hx=>?_,fun x hx=>(h.yes x hx (h.low x hx)).2.2⟩,fun x y hx hy=>⟨fun e=>?_,fun hc=>(h.clo x y hx hy (h.low x hx) hc).symm⟩⟩
 ·have:=(h.yes x hx (h.low x hx)).1;exact ⟨h.low x hx,by omega⟩
 ·have h1:=(h.yes x hx (h.low x hx)).2.1;have h2:=(h.yes y hy (h.low y hy)).2.1;rw [<-e] at h2;have h3:=(h.yes x hx (h.low x hx)).1;have h4:=h.low x hx;exact (h1.symm hi (by unfold av;omega)).trans h2
end
def sT (m:List Int):Nat->List Int
 |0=>(List.range m.length).map (Nat.cast:Nat->Int)
 |k+1=>if (k:Int)<m.getD k 0 then iI (sT m k) k (m.getD k 0).toNat else sT m k
def mI (m:List Int) (ch:Nat->Bool):Nat->List Int
 |0=>sT m m.length
 |k+1=>if ch k then iI (iI (mI m ch k) (4*k+1) (4*k+2)) (4*k+3) (4*k) else iI (iI (mI m ch k) (4*k) (4*k+1)) (4*k+2) (4*k+3)
structure UF (l R:List Int) (N:Nat):Prop where
 rep:mW R N
 len:l.length=N
 iP: ∀x,x<N->0<=l.getD x 0/\l.getD x 0<N
 same: ∀x,x<N->R.getD (l.getD x 0).toNat 0=R.getD x 0
 root: ∀x:Nat,x<N->(l.getD x 0=x↔R.getD x 0=x)
 rank: ∃rk:Nat->Nat,∀x:Nat,x<N->l.getD x 0≠x->rk (l.getD x 0).toNat<rk x
section
variable {l R:List Int} {N:Nat}
theorem UF.init (N:Nat):UF ((List.range N).map (Nat.cast:Nat->Int)) ((List.range N).map (Nat.cast:Nat->Int)) N:=by
 have hg: ∀x,x<N->((List.range N).map (Nat.cast:Nat->Int)).getD x 0=x:=fun x hx=>by simp [hx]
 exact ⟨⟨by simp,fun x hx=>by rw [hg x hx];omega,fun x hx=>by rw [hg x hx];simpa using hg x hx⟩,by simp,fun x hx=>by rw [hg x hx];omega,fun x hx=>by rw [hg x hx];simpa using hg x hx,
  fun x hx=>by rw [hg x hx],fun x=>x,fun x hx hn=>absurd (hg x hx) hn⟩
end
theorem IG (k:Nat):aI true ((4*k:Nat):Int)=((4*k+3:Nat):Int)/\aI true ((4*k+1:Nat):Int)=((4*k+2:Nat):Int)/\aI true ((4*k+2:Nat):Int)=((4*k+1:Nat):Int)/\aI true ((4*k+3:Nat):Int)=((4*k:Nat):Int)/\
  aI false ((4*k:Nat):Int)=((4*k+1:Nat):Int)/\aI false ((4*k+1:Nat):Int)=((4*k:Nat):Int)/\aI false ((4*k+2:Nat):Int)=((4*k+3:Nat):Int)/\aI false ((4*k+3:Nat):Int)=((4*k+2:Nat):Int):=by
 have o: ∀x:Int,x % 2=1->aI true x=x-x % 4+(x % 4+5)% 4/\aI false x=x-x % 4+(x % 4+3)% 4:=fun x h=>by
  unfold aI;rw [s6,sQ,decide_eq_true h];exact ⟨zzJ rfl,zzI (by simp)⟩
 have e: ∀x:Int,¬x % 2=1->aI true x=x-x % 4+(x % 4+3)% 4/\aI false x=x-x % 4+(x % 4+5)% 4:=fun x h=>by
  unfold aI;rw [s6,sQ,decide_eq_false h];exact ⟨zzI (by simp),zzJ rfl⟩
 rw [(e _ (by omega)).1,(o _ (by omega)).1,(e _ (by omega)).1,(o _ (by omega)).1,(e _ (by omega)).2,(o _ (by omega)).2,(e _ (by omega)).2,(o _ (by omega)).2];omega
theorem wK {m:List Int} {n:Nat} (hp:pT m n) (xx: ∀x:Nat,x<4*n->m.getD (m.getD x 0).toNat 0=x) (xC: ∀x:Nat,x<4*n->m.getD x 0≠x) (ch:Nat->Bool):Inv2 n (fun x=>m.getD x.toNat 0) (fun x=>aI (ch (x/4).toNat) x):=by
 have iR:=hp.1;refine ⟨fun x hx=>?_,fun x hx=>?_,fun x hx=>?_,fun x hx=>?_,fun x hx=>?_,fun x _=>LW _ x⟩
 ·unfold av at*
  have:=hp.2 x.toNat (by omega)
  omega
 ·unfold av at*;have h1:=qG (ch (x/4).toNat) x;omega
 ·unfold av at hx
  have:=xx x.toNat (by omega)
  show m.getD (m.getD x.toNat 0).toNat 0=x;rw [this];omega
 ·show aI (ch (aI (ch (x/4).toNat) x/4).toNat) (aI (ch (x/4).toNat) x)=x;rw [qG,u9]
 ·unfold av at hx
  have:=xC x.toNat (by omega)
  show m.getD x.toNat 0≠x;omega
section
variable {n:Nat} {mt jn:Int->Int} {R:List Int}
theorem Nw (hi:Inv2 n mt jn) (hR:mW R (4*n)) (h1: ∀x y:Nat,x<4*n->y<4*n->R.getD x 0=R.getD y 0->aX mt jn x y) {g h:Nat} (hg:g<4*n) (hh:h<4*n) (C6:aX mt jn g h):
  ∀x y:Nat,x<4*n->y<4*n->(iI R g h).getD x 0=(iI R g h).getD y 0->aX mt jn x y:=by
 intro x y hx hy e;have ir: ∀z:Nat,z<4*n->av n (z:Int):=fun z hz=>by unfold av;omega
 rw [rO hR.len hx,rO hR.len hy] at e;by_cases c1:R.getD x 0=R.getD g 0
 ·rw [zzJ c1] at e;by_cases c2:R.getD y 0=R.getD g 0
  ·exact h1 x y hx hy (c1.trans c2.symm)
  ·rw [zzI c2] at e;exact ((h1 x g hx hg c1).trans C6).trans (h1 h y hh hy e)
 ·rw [zzI c1] at e;by_cases c2:R.getD y 0=R.getD g 0
  ·rw [zzJ c2] at e;exact ((h1 x h hx hh e).trans (C6.symm hi (ir g hg))).trans (h1 g y hg hy c2.symm)
  ·rw [zzI c2] at e;exact h1 x y hx hy e
end
section
variable {m:List Int} {n:Nat} {ch:Nat->Bool}
theorem TC (hp:pT m n) (hi:Inv2 n (fun x=>m.getD x.toNat 0) (fun x=>aI (ch (x/4).toNat) x)): ∀k,k<=4*n->mW (sT m k) (4*n)/\
  (∀x y:Nat,x<4*n->y<4*n->(sT m k).getD x 0=(sT m k).getD y 0->aX (fun x=>m.getD x.toNat 0) (fun x=>aI (ch (x/4).toNat) x) x y)/\
  (∀x:Nat,x<k->(x:Int)<m.getD x 0->(sT m k).getD (m.getD x 0).toNat 0=(sT m k).getD x 0)
 |0,_=>by
  have iR:=hp.1;have hu:=(UF.init (4*n)).rep;refine ⟨by simp only [sT,iR];exact hu,fun x y hx hy e=>?_,fun x hx=>by omega⟩
  have:(x:Int)=y:=by simpa [sT,iR,hx,hy] using e
  have:x=y:=by omega
  subst this;exact .refl _
 |k+1,hk=>by
  obtain ⟨i1,i2,i3⟩:=TC hp hi k (by omega);have iR:=hp.1;have qz:=hp.2 k (by omega);by_cases aD:(k:Int)<m.getD k 0
  ·have e:sT m (k+1)=iI (sT m k) k (m.getD k 0).toNat:=by simp only [sT,zzJ aD]
   rw [e];have hy:(m.getD k 0).toNat<4*n:=by omega
   have hc:aX (fun x=>m.getD x.toNat 0) (fun x=>aI (ch (x/4).toNat) x) (k:Int) ((m.getD k 0).toNat:Int):=by
    have:=aX.mate (mt:=fun x=>m.getD x.toNat 0) (jn:=fun x=>aI (ch (x/4).toNat) x) (aX.refl (k:Int))
    simp only [zzC] at this;rw [show ((m.getD k 0).toNat:Int)=m.getD k 0 by omega];exact this
   refine ⟨Fv i1 (by omega) hy,Nw hi i1 i2 (by omega) hy hc,fun x hx KP=>?_⟩;by_cases ex:x=k
   ·subst ex;exact (Kf i1.len (by omega) hy).symm
   ·have hmx:=hp.2 x (by omega);exact zN i1.len (by omega) (by omega) (i3 x (by omega) KP)
  ·have e:sT m (k+1)=sT m k:=by simp only [sT,zzI aD]
   rw [e];refine ⟨i1,i2,fun x hx KP=>?_⟩;by_cases ex:x=k
   ·subst ex;exact absurd KP aD
   ·exact i3 x (by omega) KP
theorem TA (hp:pT m n) (xx: ∀x:Nat,x<4*n->m.getD (m.getD x 0).toNat 0=x) (xC: ∀x:Nat,x<4*n->m.getD x 0≠x): ∀k,k<=n->mW (mI m ch k) (4*n)/\
  (∀x y:Nat,x<4*n->y<4*n->(mI m ch k).getD x 0=(mI m ch k).getD y 0->aX (fun x=>m.getD x.toNat 0) (fun x=>aI (ch (x/4).toNat) x) x y)/\
  (∀x:Nat,x<4*n->(mI m ch k).getD (m.getD x 0).toNat 0=(mI m ch k).getD x 0)/\
  (∀x:Nat,x<4*k->(mI m ch k).getD (aI (ch (x/4)) x).toNat 0=(mI m ch k).getD x 0)
 |0,_=>by
  have hi:=wK hp xx xC ch;have iR:=hp.1;obtain ⟨i1,i2,i3⟩:=TC (ch:=ch) hp hi (4*n) (zzA _);simp only [mI,iR];refine ⟨i1,i2,fun x hx=>?_,fun x hx=>by omega⟩;have qz:=hp.2 x (by omega);have aA:=xC x hx;by_cases aD:(x:Int)<m.getD x 0
  ·exact i3 x hx aD
  ·have h2:=xx x hx
   have:=i3 (m.getD x 0).toNat (by omega) (by rw [h2];omega)
   rw [h2,zzC] at this;exact this.symm
 |k+1,hk=>by
  have hi:=wK hp xx xC ch;have iR:=hp.1;obtain ⟨i1,i2,i3,i4⟩:=TA hp xx xC k (by omega);have nU: ∀x:Nat,aX (fun x=>m.getD x.toNat 0) (fun x=>aI (ch (x/4).toNat) x) (x:Int) (aI (ch (x/4)) x):=fun x=>by
   have:=aX.join (mt:=fun x=>m.getD x.toNat 0) (jn:=fun x=>aI (ch (x/4).toNat) x) (aX.refl (x:Int))
   rw [show ((x:Int)/4).toNat=x/4 by omega] at this;exact this
  have gen: ∀a b c d:Nat,a<4*n->b<4*n->c<4*n->d<4*n->aI (ch (a/4)) a=b->aI (ch (c/4)) c=d->(∀x:Nat,x/4=k->(x=a\/x=b\/x=c\/x=d))->aI (ch (b/4)) b=a->aI (ch (d/4)) d=c->
   mI m ch (k+1)=iI (iI (mI m ch k) a b) c d->mW (mI m ch (k+1)) (4*n)/\
   (∀x y:Nat,x<4*n->y<4*n->(mI m ch (k+1)).getD x 0=(mI m ch (k+1)).getD y 0->aX (fun x=>m.getD x.toNat 0) (fun x=>aI (ch (x/4).toNat) x) x y)/\
   (∀x:Nat,x<4*n->(mI m ch (k+1)).getD (m.getD x 0).toNat 0=(mI m ch (k+1)).getD x 0)/\
   (∀x:Nat,x<4*(k+1)->(mI m ch (k+1)).getD (aI (ch (x/4)) x).toNat 0=(mI m ch (k+1)).getD x 0):=by
   intro a b c d ha hb hc hd e1 e2 Pn e3 e4 eM;rw [eM];have r1:=Fv i1 ha hb;have c1:=Nw hi i1 i2 ha hb (by rw [<-e1];exact nU a);refine ⟨Fv r1 hc hd,Nw hi r1 c1 hc hd (by rw [<-e2];exact nU c),fun x hx=>?_,fun x hx=>?_⟩
   ·have qz:=hp.2 x (by omega);exact zN r1.len (by omega) hx (zN i1.len (by omega) hx (i3 x hx))
   ·by_cases GH:x/4=k
    ·have p1:=zN r1.len (g:=c) (h:=d) ha hb (Kf i1.len ha hb);have p2:=Kf (N:=4*n) (R:=iI (mI m ch k) a b) r1.len hc hd;rcases Pn x GH with rfl|rfl|rfl|rfl
     ·rw [e1,zzC];exact p1.symm
     ·rw [e3,zzC];exact p1
     ·rw [e2,zzC];exact p2.symm
     ·rw [e4,zzC];exact p2
    ·have hj:=qG (ch (x/4)) x;exact zN r1.len (by omega) (by omega) (zN i1.len (by omega) (by omega) (i4 x (by omega)))
  have d0:(4*k)/4=k:=by omega
  have d1:(4*k+1)/4=k:=by omega
  have d2:(4*k+2)/4=k:=by omega
  have d3:(4*k+3)/4=k:=by omega
  obtain ⟨t0,t1,t2,t3,f0,f1,f2,f3⟩:=IG k;cases pe:ch k with
  |true=>
   exact gen (4*k+1) (4*k+2) (4*k+3) (4*k) (by omega) (by omega) (by omega) (by omega) (by rw [d1,pe];exact t1) (by rw [d3,pe];exact t3) (fun x hx=>by omega) (by rw [d2,pe];exact t2) (by rw [d0,pe];exact t0) (by simp only [mI,pe,if_true])
  |false=>
   exact gen (4*k) (4*k+1) (4*k+2) (4*k+3) (by omega) (by omega) (by omega) (by omega) (by rw [d0,pe];exact f0) (by rw [d2,pe];exact f2) (fun x hx=>by omega) (by rw [d1,pe];exact f1) (by rw [d3,pe];exact f3) (by simp only [mI,pe];rfl)
theorem EP (hp:pT m n) (xx: ∀x:Nat,x<4*n->m.getD (m.getD x 0).toNat 0=x) (xC: ∀x:Nat,x<4*n->m.getD x 0≠x):j9 n (fun x=>m.getD x.toNat 0) (fun x=>aI (ch (x/4).toNat) x) (mI m ch n):=by
 obtain ⟨i1,i2,i3,i4⟩:=TA (ch:=ch) hp xx xC n (zzA _);refine j9.of (wK hp xx xC ch) i1 i2 (fun x hx=>by simp only [zzC];exact i3 x hx) (fun x hx=>?_)
 have:=i4 x hx
 rw [show ((x:Int)/4).toNat=x/4 by omega];exact this
end
def sm (f:Nat->Int):Nat->Int
 |0=>0
 |n+1=>sm f n+f n
inductive iH (mt jn:Int->Int) (c:Int):Int->Int->Prop
 |refl (x:Int):iH mt jn c x x
 |mate {x y:Int} (h:iH mt jn c x y):iH mt jn c x (mt y)
 |join {x y:Int} (h:iH mt jn c x y) (hy:y/4≠c):iH mt jn c x (jn y)
 |any {x y z:Int} (h:iH mt jn c x y) (hy:y/4=c) (hz:z/4=c):iH mt jn c x z
theorem iH.trans {mt jn:Int->Int} {c x y z:Int} (h1:iH mt jn c x y) (h2:iH mt jn c y z):iH mt jn c x z:=by
 induction h2 with
 |refl=>exact h1
 |mate _ ih=>exact .mate ih
 |join _ hy ih=>exact .join ih hy
 |any _ hy hz ih=>exact .any ih hy hz
structure Way (n:Nat) (mt jn:Int->Int) (c:Nat) (x e:Int) (O:Int->Prop):Prop where
 inX:O x
 inE:O e
 ne:e≠x
 eC:e/4=c
 ends: ∀y,O y->y/4=c->y=x\/y=e
 mate: ∀y,O y->O (mt y)
 join: ∀y,O y->y/4≠c->O (jn y)
 iP: ∀y,O y->av n y
section
variable {n:Nat} {mt jn:Int->Int} {c:Nat}
def Li (jn:Int->Int):Prop:= ∀x,jn x/4=x/4
theorem XB (hi:Inv2 n mt jn) (hj:Li jn) {x:Int} (hx:av n x) (uD:x/4=c): ∃e O,Way n mt jn c x e O/\ ∀kn:Int->Int,(∀y:Int,0<=y->y/4≠c->kn y=jn y)-> ∀y,O y->aX mt kn x y:=by
 have hR: ∀j,av n (it (fun x=>jn (mt x)) j x):=fun j=>(zI hi).it hx j;obtain ⟨k,hk,vA⟩:=(zI hi).Gb hx;have xE:=vA.pos;have xR:=vA.back;have ex: ∃j,mt (it (fun x=>jn (mt x)) j x)/4=c:=by
  refine ⟨k-1,?_⟩;have e:it (fun x=>jn (mt x)) ((k-1)+1) x=x:=by rw [show k-1+1=k by omega];exact xR
  have e2:jn (mt (it (fun x=>jn (mt x)) (k-1) x))=x:=e;rw [<-hj,e2,uD]
 have Ja: ∀b,(∃j,j<=b/\mt (it (fun x=>jn (mt x)) j x)/4=c)-> ∃j,mt (it (fun x=>jn (mt x)) j x)/4=c/\ ∀i,i<j->mt (it (fun x=>jn (mt x)) i x)/4≠c:=by
  intro b
  induction b with
  |zero=>rintro ⟨j,hj,h⟩;obtain rfl:j=0:=by omega
         exact ⟨0,h,fun i hi=>by omega⟩
  |succ b ih=>
   rintro ⟨j,hj,h⟩;by_cases hq: ∃j,j<=b/\mt (it (fun x=>jn (mt x)) j x)/4=c
   ·exact ih hq
   ·refine ⟨j,h,fun i hi hc=>hq ⟨i,by omega,hc⟩⟩
 obtain ⟨j0,h0⟩:=ex;obtain ⟨j,nU,nT⟩:=Ja j0 ⟨j0,zzA _,h0⟩;have succ: ∀i,it (fun x=>jn (mt x)) (i+1) x=jn (mt (it (fun x=>jn (mt x)) i x)):=fun i=>rfl;have off: ∀i,0<i->i<=j->it (fun x=>jn (mt x)) i x/4≠c:=fun i h1 h2=>by
  obtain ⟨i,rfl⟩: ∃i',i=i'+1:=⟨i-1,by omega⟩;rw [succ,hj];exact nT i (by omega)
 refine ⟨mt (it (fun x=>jn (mt x)) j x),fun y=> ∃i,i<=j/\(y=it (fun x=>jn (mt x)) i x\/y=mt (it (fun x=>jn (mt x)) i x)),⟨⟨0,by omega, .inl rfl⟩,⟨j,zzA _, .inr rfl⟩,?_,nU,?_,?_,?_,?_⟩,?_⟩
 ·exact fun e=>(MT hi hx j 0 j (by omega)).2 e.symm
 ·rintro y ⟨i,kB,rfl|rfl⟩ zh
  ·by_cases vD:i=0
   ·subst vD;exact .inl rfl
   ·exact absurd zh (off i (by omega) kB)
  ·by_cases vD:i=j
   ·subst vD;exact .inr rfl
   ·exact absurd zh (nT i (by omega))
 ·rintro y ⟨i,kB,rfl|rfl⟩
  ·exact ⟨i,kB, .inr rfl⟩
  ·exact ⟨i,kB, .inl (hi.mm _ (hR i))⟩
 ·rintro y ⟨i,kB,rfl|rfl⟩ zh
  ·by_cases vD:i=0
   ·subst vD;exact absurd uD zh
   ·obtain ⟨i,rfl⟩: ∃i',i=i'+1:=⟨i-1,by omega⟩;exact ⟨i,by omega, .inr (by rw [succ,hi.jj _ (hi.mr _ (hR i))])⟩
  ·by_cases vD:i=j
   ·subst vD;exact absurd nU zh
   ·exact ⟨i+1,by omega, .inl rfl⟩
 ·rintro y ⟨i,kB,rfl|rfl⟩
  ·exact hR i
  ·exact hi.mr _ (hR i)
 ·intro kn C4 y hy;have hc: ∀i,i<=j->aX mt kn x (it (fun x=>jn (mt x)) i x):=by
   intro i
   induction i with
   |zero=>intro _;exact .refl _
   |succ i ih=>
    intro kB;rw [succ,<-C4 _ (by have:=hi.mr _ (hR i);unfold av at this;exact this.1) (nT i (by omega))];exact .join (.mate (ih (by omega)))
  obtain ⟨i,kB,rfl|rfl⟩:=hy
  ·exact hc i kB
  ·exact .mate (hc i kB)
theorem Tz (hi:Inv2 n mt jn) (hj:Li jn) {R:List Int} (hR:j9 n mt jn R) {x y:Nat} (hx:x<4*n) (hy:y<4*n) (uD:x/4=c) (zh:y/4=c)
  (cF: ∀z:Int,z/4=c->z=x\/z=jn x\/z=y\/z=jn y):
  mW (iI R x y) (4*n)/\ ∀a b:Nat,a<4*n->b<4*n->((iI R x y).getD a 0=(iI R x y).getD b 0↔iH mt jn c a b):=by
 have hl:=hR.rep.len;have ir: ∀x:Nat,x<4*n->av n (x:Int):=fun x hx=>by unfold av;omega
 have Ej: ∀{a b:Int},aX mt jn a b->iH mt jn c a b:=fun h=>by
  induction h with
  |refl=>exact .refl _
  |mate _ ih=>exact .mate ih
  | @join z _ ih=>
    by_cases hz:z/4=c
    ·exact .any ih hz (by rw [hj];exact hz)
    ·exact .join ih hz
 have xy:iH mt jn c x y:= .any (.refl _) (by omega) (by omega);have yx:iH mt jn c y x:= .any (.refl _) (by omega) (by omega);refine ⟨Fv hR.rep hx hy,fun a b ha hb=>⟨fun e=>?_,fun h=>?_⟩⟩
 ·rw [rO hl ha,rO hl hb] at e;by_cases c1:R.getD a 0=R.getD x 0
  ·rw [zzJ c1] at e;by_cases c2:R.getD b 0=R.getD x 0
   ·exact Ej ((hR.iff a b ha hb).1 (c1.trans c2.symm))
   ·rw [zzI c2] at e;exact ((Ej ((hR.iff a x ha hx).1 c1)).trans xy).trans (Ej ((hR.iff y b hy hb).1 e))
  ·rw [zzI c1] at e;by_cases c2:R.getD b 0=R.getD x 0
   ·rw [zzJ c2] at e;exact ((Ej ((hR.iff a y ha hy).1 e)).trans yx).trans (Ej ((hR.iff x b hx hb).1 c2.symm))
   ·rw [zzI c2] at e;exact Ej ((hR.iff a b ha hb).1 e)
 ·have cx:(iI R x y).getD x 0=(iI R x y).getD y 0:=Kf hl hx hy;have Kv: ∀u v:Nat,u<4*n->v<4*n->aX mt jn u v->(iI R x y).getD u 0=(iI R x y).getD v 0:=fun u v hu hv h=>zN hl hu hv ((hR.iff u v hu hv).2 h);have jx:=hi.jr _ (ir x hx);have jy:=hi.jr _ (ir y hy);have four: ∀z:Nat,z<4*n->z/4=c->(iI R x y).getD z 0=(iI R x y).getD x 0:=fun z hz hzc=>by
   rcases cF z (by omega) with h|h|h|h
   ·rw [show z=x by omega]
   ·exact (Kv x z hx hz (by rw [h];exact .join (.refl _))).symm
   ·rw [show z=y by omega];exact cx.symm
   ·rw [cx];exact (Kv y z hy hz (by rw [h];exact .join (.refl _))).symm
  have key: ∀z,iH mt jn c a z->av n z->av n z/\(iI R x y).getD z.toNat 0=(iI R x y).getD a 0:=by
   intro z hz
   induction hz with
   |refl=>exact fun h=>⟨h,by rw [zzC]⟩
   | @mate u h ih=>
     intro hr;have hu:av n u:=by
      have: ∀w,iH mt jn c a w->av n w:=fun w hw=>by
       induction hw with
       |refl=>exact ir a ha
       |mate _ uB=>exact hi.mr _ uB
       |join _ _ uB=>exact hi.jr _ uB
       |any h Bo wb uB=>unfold av at*;omega
      exact this u h
     obtain ⟨_,e⟩:=ih hu;refine ⟨hr,?_⟩;unfold av at hu hr;rw [<-e];exact (Kv u.toNat (mt u).toNat (by omega) (by omega) (by rw [show ((u.toNat:Nat):Int)=u by omega,show (((mt u).toNat:Nat):Int)=mt u by omega];exact .mate (.refl _))).symm
   | @join u h hu4 ih=>
     intro hr;have hu:av n u:=by
      have: ∀w,iH mt jn c a w->av n w:=fun w hw=>by
       induction hw with
       |refl=>exact ir a ha
       |mate _ uB=>exact hi.mr _ uB
       |join _ _ uB=>exact hi.jr _ uB
       |any h Bo wb uB=>unfold av at*;omega
      exact this u h
     obtain ⟨_,e⟩:=ih hu;refine ⟨hr,?_⟩;unfold av at hu hr;rw [<-e];exact (Kv u.toNat (jn u).toNat (by omega) (by omega) (by rw [show ((u.toNat:Nat):Int)=u by omega,show (((jn u).toNat:Nat):Int)=jn u by omega];exact .join (.refl _))).symm
   | @any u v h hu4 hv4 ih=>
     intro hr;have hu:av n u:=by unfold av;omega
     obtain ⟨_,e⟩:=ih hu;refine ⟨hr,?_⟩;unfold av at hu hr;rw [<-e,four v.toNat (by omega) (by omega),four u.toNat (by omega) (by omega)]
  have:=(key b h (ir b hb)).2
  rw [zzC] at this;exact this.symm
end
def pr3:Nat->Int->Int
 |0,x=>aI false x
 |1,x=>aI true x
 |_,x=>x-x % 4+(x % 4+2)% 4
theorem y40 (c:Int):pr3 0 (4*c)=4*c+1/\pr3 0 (4*c+1)=4*c/\pr3 0 (4*c+2)=4*c+3/\pr3 0 (4*c+3)=4*c+2/\
  pr3 1 (4*c)=4*c+3/\pr3 1 (4*c+1)=4*c+2/\pr3 1 (4*c+2)=4*c+1/\pr3 1 (4*c+3)=4*c/\
  pr3 2 (4*c)=4*c+2/\pr3 2 (4*c+1)=4*c+3/\pr3 2 (4*c+2)=4*c/\pr3 2 (4*c+3)=4*c+1:=by
 have o: ∀x:Int,x % 2=1->aI true x=x-x % 4+(x % 4+5)% 4/\aI false x=x-x % 4+(x % 4+3)% 4:=fun x h=>by
  unfold aI;rw [s6,sQ,decide_eq_true h];exact ⟨zzJ rfl,zzI (by simp)⟩
 have e: ∀x:Int,¬x % 2=1->aI true x=x-x % 4+(x % 4+3)% 4/\aI false x=x-x % 4+(x % 4+5)% 4:=fun x h=>by
  unfold aI;rw [s6,sQ,decide_eq_false h];exact ⟨zzI (by simp),zzJ rfl⟩
 simp only [pr3];rw [(e _ (by omega)).1,(o _ (by omega)).1,(e _ (by omega)).1,(o _ (by omega)).1,(e _ (by omega)).2,(o _ (by omega)).2,(e _ (by omega)).2,(o _ (by omega)).2];omega
theorem Sg (t:Nat) (x:Int):pr3 t x/4=x/4:=by
 unfold pr3
 split
 ·exact qG _ _
 ·exact qG _ _
 ·omega
theorem Sf: ∀(t:Nat) (x:Int),pr3 t (pr3 t x)=x
 |0,x=>u9 _ _
 |1,x=>u9 _ _
 |t+2,x=>by simp only [pr3];omega
theorem N9 (t:Nat) (x:Int):pr3 t x≠x:=by
 unfold pr3
 split
 ·exact LW _ _
 ·exact LW _ _
 ·omega
def uz (s:Nat->Nat) (x:Int):Int:=pr3 (s (x/4).toNat) x
theorem SU {n:Nat} {m:List Int} (hp:pT m n) (xx: ∀x:Nat,x<4*n->m.getD (m.getD x 0).toNat 0=x) (xC: ∀x:Nat,x<4*n->m.getD x 0≠x) (s:Nat->Nat):Inv2 n (fun x=>m.getD x.toNat 0) (uz s):=by
 have h:=wK hp xx xC (fun _=>false);refine ⟨h.mr,fun x hx=>?_,h.mm,fun x hx=>?_,h.mf,fun x _=>N9 _ _⟩
 ·have:=Sg (s (x/4).toNat) x
  unfold av uz at*;omega
 ·unfold uz;rw [Sg,Sf]
def Ib (m:List Int) (n:Nat) (s:Nat->Nat):Nat:=roots (crN (fun x=>m.getD x.toNat 0) (uz s) (4*n) (4*n))
theorem y41 {n:Nat} {mt:Int->Int} {j:Nat->Int->Int} {c:Nat} (hc:c<n) (hi: ∀t,t<3->Inv2 n mt (j t)) (hj: ∀t,t<3->Li (j t)) (xS: ∀t,t<3-> ∀x:Int,x/4=c->j t x=pr3 t x) (jF: ∀t,t<3-> ∀x:Int,0<=x->x/4≠c->j t x=j 0 x)
  {R:Nat->List Int} (hR: ∀t,t<3->j9 n mt (j t) (R t)): ∃K t0,t0<3/\(∀t,t<3->roots (R t)=if t=t0 then K+1 else K)/\ ∀t,t<3->t≠t0-> ∀y:Nat,y<4*n->y/4=c->(R t).getD (4*c) 0=(R t).getD y 0:=by
 obtain ⟨e,O,hw,xq⟩:=XB (c:=c) (hi 0 (by omega)) (hj 0 (by omega)) (x:=4*c) (by unfold av;omega) (by omega);have V:=y40 c;have eC:=hw.eC;have eN:=hw.ne;have eR:=hw.iP e hw.inE;obtain ⟨t0,zj,KI⟩: ∃t0,t0<3/\pr3 t0 (4*c)=e:=by
  rcases (show e=4*c+1\/e=4*c+2\/e=4*c+3 by omega) with h|h|h
  ·exact ⟨0,by omega,by omega⟩
  ·exact ⟨2,by omega,by omega⟩
  ·exact ⟨1,by omega,by omega⟩
 have Dm: ∀t,t<3-> ∀y:Int,y/4=c->y≠4*c->y≠j t (4*c)-> ∀z:Int,z/4=c->z=4*c\/z=j t (4*c)\/z=y\/z=j t y:=fun t ht y hy h1 h2 z hz=>by
  rw [xS t ht _ (by omega)] at h2⊢;rw [xS t ht y hy];rcases (show y=4*c+1\/y=4*c+2\/y=4*c+3 by omega) with rfl|rfl|rfl<;>
  rcases (show z=4*c\/z=4*c+1\/z=4*c+2\/z=4*c+3 by omega) with rfl|rfl|rfl|rfl<;>
  rcases (show t=0\/t=1\/t=2 by omega) with rfl|rfl|rfl<;>omega
 have F6: ∀t,t<3-> ∀a b,av n a->iH mt (j t) c a b->av n b:=fun t ht a b ha h=>by
  induction h with
  |refl=>exact ha
  |mate _ ih=>exact (hi t ht).mr _ ih
  |join _ _ ih=>exact (hi t ht).jr _ ih
  |any _ hy hz ih=>unfold av at*;omega
 have BI: ∀t,t<3-> ∀a b,av n a->(iH mt (j t) c a b↔iH mt (j 0) c a b):=fun t ht a b ha=>by
  constructor
  ·intro h
   induction h with
   |refl=>exact .refl _
   |mate _ ih=>exact .mate ih
   |join h hy ih=>rw [jF t ht _ (F6 t ht _ _ ha h).1 hy];exact .join ih hy
   |any _ hy hz ih=>exact .any ih hy hz
  ·intro h
   induction h with
   |refl=>exact .refl _
   |mate _ ih=>exact .mate ih
   |join h hy ih=>rw [<-jF t ht _ (F6 0 (by omega) _ _ ha h).1 hy];exact .join ih hy
   |any _ hy hz ih=>exact .any ih hy hz
 have J: ∀t,t<3-> ∃y:Nat,y<4*n/\y/4=c/\(y:Int)≠4*c/\(y:Int)≠j t (4*c)/\(t≠t0->(y:Int)=e):=fun t ht=>by
  by_cases h:t=t0
  ·subst h;have h1:=xS t ht (4*c) (by omega);by_cases h2:j t (4*c)=4*c+1
   ·exact ⟨4*c+2,by omega,by omega,by omega,by omega,fun h=>absurd rfl h⟩
   ·exact ⟨4*c+1,by omega,by omega,by omega,by omega,fun h=>absurd rfl h⟩
  ·unfold av at eR;refine ⟨e.toNat,by omega,by omega,by omega,?_,fun _=>by omega⟩;rw [xS t ht _ (by omega),show ((e.toNat:Nat):Int)=e by omega,<-KI];rcases (show t=0\/t=1\/t=2 by omega) with rfl|rfl|rfl<;>
   rcases (show t0=0\/t0=1\/t0=2 by omega) with rfl|rfl|rfl<;>omega
 have CG:4*c<4*n:=by omega
 have qp:((4*c:Nat):Int)=4*(c:Int):=by omega
 obtain ⟨y0,GG,X1,CE,Pk,hy4⟩:=J t0 zj;obtain ⟨K,hK⟩: ∃K,roots (iI (R t0) (4*c) y0)=K:=⟨_,rfl⟩;have same: ∀t,t<3-> ∀y:Nat,y<4*n->y/4=c->(y:Int)≠4*c->(y:Int)≠j t (4*c)->roots (iI (R t) (4*c) y)=K:=fun t ht y h1 h2 h3 h4=>by
  rw [<-hK];have A:=Tz (c:=c) (hi t ht) (hj t ht) (hR t ht) (x:=4*c) CG h1 (by omega) h2 (by rw [qp];exact Dm t ht y (by omega) h3 h4);have B:=Tz (c:=c) (hi t0 zj) (hj t0 zj) (hR t0 zj) (x:=4*c) CG GG (by omega) X1 (by rw [qp];exact Dm t0 zj y0 (by omega) CE Pk)
  have AB: ∀a b:Nat,a<4*n->b<4*n->((iI (R t) (4*c) y).getD a 0=(iI (R t) (4*c) y).getD b 0↔(iI (R t0) (4*c) y0).getD a 0=(iI (R t0) (4*c) y0).getD b 0):=fun a b ha hb=>by
   have ia:av n (a:Int):=by unfold av;omega
   rw [A.2 a b ha hb,B.2 a b ha hb,BI t ht _ _ ia,BI t0 zj _ _ ia]
  exact Nat.le_antisymm (JO B.1 A.1 fun a b ha hb=>(AB a b ha hb).symm) (JO A.1 B.1 AB)
 have on: ∀t,t<3->t≠t0-> ∀y:Nat,y<4*n->y/4=c->(R t).getD (4*c) 0=(R t).getD y 0:=fun t ht h y hy zh=>by
  obtain ⟨w,h1,h2,h3,h4,h5⟩:=J t ht;have e0:(R t).getD (4*c) 0=(R t).getD w 0:=((hR t ht).iff _ _ CG h1).2 (by
   rw [qp,h5 h];exact xq (j t) (fun z h0 hz=>jF t ht z h0 hz) e hw.inE)
  rcases Dm t ht w (by omega) h3 h4 y (by omega) with h6|h6|h6|h6
  ·rw [show y=4*c by omega]
  ·exact ((hR t ht).iff _ _ CG hy).2 (by rw [qp,h6];exact .join (.refl _))
  ·rw [e0,show y=w by omega]
  ·rw [e0];exact ((hR t ht).iff _ _ h1 hy).2 (by rw [h6];exact .join (.refl _))
 refine ⟨K,t0,zj,fun t ht=>?_,on⟩;by_cases h:t=t0
 ·rw [zzJ h];subst h;rw [<-hK];refine Vo (hR t ht).rep CG GG fun e1=>?_;have Dd:=((hR t ht).iff _ _ CG GG).1 e1;rw [qp] at Dd;have inO: ∀z,aX mt (j t) (4*c) z->O z:=fun z hz=>by
   induction hz with
   |refl=>exact hw.inX
   |mate _ ih=>exact hw.mate _ ih
   | @join u _ ih=>
     by_cases hu:u/4=c
     ·rw [xS t ht u hu];rcases hw.ends u ih hu with rfl|rfl
      ·rw [KI];exact hw.inE
      ·rw [<-KI,Sf];exact hw.inX
     ·rw [jF t ht u (hw.iP u ih).1 hu];exact hw.join u ih hu
  rcases hw.ends _ (inO _ Dd) (by omega) with h5|h5
  ·exact CE h5
  ·rw [xS t ht _ (by omega),KI] at Pk;exact Pk h5
 ·rw [zzI h];obtain ⟨y,h1,h2,h3,h4,h5⟩:=J t ht;rw [<-same t ht y h1 h2 h3 h4]
  have:(R t).getD (4*c) 0=(R t).getD y 0:=((hR t ht).iff _ _ CG h1).2 (by
   rw [qp,h5 h];exact xq (j t) (fun z h0 hz=>jF t ht z h0 hz) e hw.inE)
  unfold iI;rw [zzJ this]
theorem y6f {n:Nat} {mt:Int->Int} {j:Nat->Int->Int} {c:Nat} (hc:c<n) (hi: ∀t,t<3->Inv2 n mt (j t)) (hj: ∀t,t<3->Li (j t)) (xS: ∀t,t<3-> ∀x:Int,x/4=c->j t x=pr3 t x) (jF: ∀t,t<3-> ∀x:Int,0<=x->x/4≠c->j t x=j 0 x)
  {R:Nat->List Int} (hR: ∀t,t<3->j9 n mt (j t) (R t)): ∃K t0,t0<3/\ ∀t,t<3->roots (R t)=if t=t0 then K+1 else K:=by
 obtain ⟨K,t0,h1,h2,_⟩:=y41 hc hi hj xS jF hR;exact ⟨K,t0,h1,h2⟩
section
variable {K:Nat} {c:Nat->Nat} {w:Nat->Int}
end
theorem fi.len {p:List (Int×Int)} (h:fi p): ∀{a b:Int},(∀t∈p,a<=t.1/\t.1<=b)->(p.length:Int)<=max 0 (b-a+1):=by
 induction p with
 |nil=>intro a b _;simp;omega
 |cons t p ih=>
  intro a b hb;have h1:=hb t (zzD ..)
  have:=ih h.tail (a:=t.1+1) (b:=b) fun u hu=>by
   have h2:=h.head u hu;have h3:=hb u (zzE _ hu);omega
  simp only [zzG];omega
set_option maxRecDepth 100000
structure cM (p:List (Int×Int)) (f:Int->Int):Prop where
 asc:fi p
 cf: ∀e,cfL p e=f e
theorem cM.nil:cM [] (fun _=>0):=⟨fi.nil,fun _=>rfl⟩
theorem cM.congr {p:List (Int×Int)} {f g:Int->Int} (h:cM p f) (e: ∀x,f x=g x):cM p g:=⟨h.asc,fun x=>(h.cf x).trans (e x)⟩
theorem cM.mem {p:List (Int×Int)} {f:Int->Int} (h:cM p f) {t:Int×Int} (ht:t∈p):t.2=f t.1/\f t.1≠0:=by
 have:=Fi h.asc ht
 rw [h.cf] at this;exact ⟨this.symm,by rw [this];exact h.asc.nz t ht⟩
theorem cM.len {p:List (Int×Int)} {f:Int->Int} (h:cM p f) (hs: ∀e,f e≠0-> -1000<=e/\e<=1000):p.length<=2001:=by
 have:=h.asc.len (a:= -1000) (b:=1000) fun t ht=>hs _ (h.mem ht).2
 omega
abbrev bg:=List (Int×Int×Int)
def td (q:Int×Int):Int:=q.1*33554432+q.2
def mPut:bg->Int->Int->bg
 |[],e,v=>[(e,v/33554432,v % 33554432)]
 |q::m,e,v=>if q.1=e then (e,q.2.1+v/33554432,q.2.2+v % 33554432)::m else q::mPut m e v
def wG:bg->Int->Option (Int×Int)
 |[],_=>none
 |q::m,e=>if q.1=e then some q.2 else wG m e
def mVal (m:bg) (e:Int):Int:=match wG m e with
 |some q=>td q
 |none=>0
theorem Nv {e:Int} {v:Int×Int}: ∀{m:bg},wG m e=some v->(e,v)∈m
 |[],h=>by cases h
 |q::m,h=>by
  simp only [wG] at h
  split at h
  ·rename_i hq
   cases h;obtain ⟨q1,q2⟩:=q;dsimp only at hq;subst hq;exact zzD ..
  ·exact zzE _ (Nv h)
theorem MS (e:Int):mVal [] e=0:=rfl
theorem Ce (q:Int×Int×Int) (m:bg) (e:Int):mVal (q::m) e=if q.1=e then td q.2 else mVal m e:=by
 unfold mVal;simp only [wG];by_cases h:q.1=e
 ·rw [zzJ h,zzJ h]
 ·rw [zzI h,zzI h]
theorem Ty (e v x:Int): ∀m:bg,mVal (mPut m e v) x=mVal m x+if x=e then v else 0
 |[]=>by
  simp only [mPut,Ce,MS];by_cases h:x=e
  ·rw [zzJ h.symm,zzJ h];simp only [td];omega
  ·rw [zzI (fun h'=>h h'.symm),zzI h];rfl
 |q::m=>by
  simp only [mPut];by_cases hq:q.1=e
  ·rw [zzJ hq,Ce,Ce];by_cases h:x=e
   ·rw [zzJ h.symm,zzJ (by omega),zzJ h];simp only [td];omega
   ·rw [zzI (fun h'=>h h'.symm),zzI (by omega),zzI h];omega
  ·rw [zzI hq,Ce,Ce,Ty e v x m];by_cases h:q.1=x
   ·rw [zzJ h,zzJ h,zzI (by omega)];omega
   ·rw [zzI h,zzI h]
theorem SS {u:Int×Int×Int}: ∀{m:bg},(m.map (·.1)).Nodup->u∈m->mVal m u.1=td u.2
 |[],_,h=>by cases h
 |q::m,hn,h=>by
  rw [List.map_cons] at hn;have zo:=List.nodup_cons.1 hn;rw [Ce];rcases List.mem_cons.1 h with rfl|h
  ·rw [zzJ rfl]
  ·rw [zzI,SS zo.2 h];intro e;exact zo.1 (by have:=List.mem_map_of_mem (f:=(·.1)) h;rw [<-e] at this;exact this)
theorem MR {q:Int×Int×Int} {e v:Int}: ∀{m:bg},q∈mPut m e v->q∈m\/q.1=e
 |[],h=>by simp only [mPut,zzM] at h;exact .inr (by rw [h])
 |u::m,h=>by
  simp only [mPut] at h
  split at h
  ·rcases List.mem_cons.1 h with rfl|h
   ·exact .inr rfl
   ·exact .inl (zzE _ h)
  ·rcases List.mem_cons.1 h with rfl|h
   ·exact .inl (zzD ..)
   ·exact (MR h).imp (zzE _) id
structure oM (m:bg) (k:Nat):Prop where
 nd:(m.map (·.1)).Nodup
 len:m.length<=k
 bn: ∀q∈m,(-(k*67108864:Int)<=q.2.1/\q.2.1<=k*67108864)/\0<=q.2.2/\q.2.2<=k*33554432
theorem oM.nil:oM [] 0:=⟨.nil,zzA _,fun _ h=>by cases h⟩
theorem oM.mono {m:bg} {k k':Nat} (h:oM m k) (hk:k<=k'):oM m k':=⟨h.nd,Nat.le_trans h.len hk,fun q hq=>by have:=h.bn q hq;omega⟩
theorem oM.put {m:bg} {k:Nat} (e:Int) {v:Int} (h:oM m k) (hv: -1125899906842624<=v/\v<=1125899906842624):oM (mPut m e v) (k+1):=by
 obtain ⟨nd,hl,hb⟩:=h
 induction m generalizing k with
 |nil=>exact ⟨by simp [mPut],by simp [mPut],fun q hq=>by
  simp only [mPut,zzM] at hq;subst hq;dsimp only;omega⟩
 |cons u m ih=>
  rw [List.map_cons] at nd;have O5:=List.nodup_cons.1 nd;simp only [mPut];have hu:=hb u (zzD ..)
  split
  ·rename_i he
   refine ⟨?_,by simp only [zzG] at hl⊢;omega,fun q hq=>?_⟩
   ·rw [List.map_cons,<-he];exact nd
   ·rcases List.mem_cons.1 hq with rfl|hq
    ·dsimp only;omega
    ·have:=hb q (zzE _ hq);omega
  ·rename_i he
   simp only [zzG] at hl;have i2:=ih (k:=k) O5.2 (by omega) (fun q hq=>hb q (zzE _ hq));have hlen:(mPut m e v).length<=m.length+1:=by
    clear ih nd O5 hl hb hu i2
    induction m with
    |nil=>simp [mPut]
    |cons a m ih=>simp only [mPut];split<;>simp only [zzG]<;>omega
   refine ⟨List.nodup_cons.2 ⟨fun hm=>?_,i2.nd⟩,by simp only [zzG];omega,fun q hq=>?_⟩
   ·obtain ⟨q,q1,q2⟩:=List.mem_map.1 hm;rcases MR q1 with q1|q1
    ·exact O5.1 (by have:=List.mem_map_of_mem (f:=(·.1)) q1;rw [q2] at this;exact this)
    ·exact he (q2.symm.trans q1)
   ·rcases List.mem_cons.1 hq with rfl|hq
    ·omega
    ·exact i2.bn q hq
def fS (q:Int×Int×Int):List (Int×Int):=if td q.2=0 then [] else [(q.1,td q.2)]
def kJ (m:bg) (sn:List Nat):List (Int×Int):=sn.flatMap fun b=>fS (m.getD b (0,0,0))
theorem y0x (m:bg) (sn:List Nat) (b:Nat):kJ m (sn++[b])=kJ m sn++fS (m.getD b (0,0,0)):=by simp [kJ]
theorem MQ (m:bg): ∀sn:List Nat,(kJ m sn).length<=sn.length
 |[]=>zzA _
 |b::sn=>by
  have:=MQ m sn
  simp only [kJ,List.flatMap_cons,zzF,zzG] at this⊢
  have:(fS (m.getD b (0,0,0))).length<=1:=by unfold fS;split<;>simp
  omega
theorem y42 (m:bg):kJ m (List.range m.length)=m.flatMap fS:=by
 have h:(List.range m.length).map (fun b=>m.getD b (0,0,0))=m:=by
  apply List.ext_getElem?;intro i;by_cases hi:i<m.length<;>simp [hi]
 conv=>rhs;rw [<-h]
 rw [List.flatMap_map];rfl
theorem y0y (m:bg) {sn:List Nat} (h:sn.Perm (List.range m.length)):(kJ m sn).Perm (m.flatMap fS):=by
 rw [<-y42];exact h.flatMap_right _
theorem y43 {p q:List (Int×Int)} (h:p.Perm q) (e:Int):cfL p e=cfL q e:=by
 induction h with
 |nil=>rfl
 |cons x _ ih=>simp only [cfL,ih]
 |swap x y l=>simp only [cfL];omega
 |trans _ _ h1 h2=>rw [h1,h2]
theorem Jw: ∀m:bg,((m.flatMap fS).map (·.1)).Sublist (m.map (·.1))
 |[]=> .slnil
 |q::m=>by
  simp only [List.flatMap_cons,List.map_append,List.map_cons];unfold fS
  split
  ·exact (Jw m).cons _
  ·exact (Jw m).cons_cons _
theorem W9: ∀{m:bg},(m.map (·.1)).Nodup-> ∀e,cfL (m.flatMap fS) e=mVal m e
 |[],_,e=>rfl
 |q::m,h,e=>by
  rw [List.map_cons] at h;have h':=List.nodup_cons.1 h;have ih:=W9 h'.2 e;rw [List.flatMap_cons,JG,ih,Ce];unfold fS;by_cases hq:q.1=e
  ·rw [zzJ hq];have h0:mVal m e=0:=by
    rw [<-ih];refine TQ fun t ht he=>h'.1 ?_
    have:=(Jw m).subset (List.mem_map_of_mem ht)
    rw [he,<-hq] at this;exact this
   rw [h0]
   split
   ·rename_i hz;rw [hz];rfl
   ·simp only [cfL];rw [zzJ hq];omega
  ·rw [zzI hq]
   split
   ·simp only [cfL];omega
   ·simp only [cfL];rw [zzI hq];omega
theorem HS {m:bg} {t:Int×Int} (h:t∈m.flatMap fS):t.2≠0:=by
 obtain ⟨q,_,h2⟩:=List.mem_flatMap.1 h;unfold fS at h2
 split at h2
 ·cases h2
 ·rename_i hz
  rw [List.mem_singleton.1 h2];exact hz
theorem y00 {m:bg} (hm:(m.map (·.1)).Nodup) {sn:List Nat} (hs:sn.Perm (List.range m.length)) {r:List (Int×Int)} (hr:r.Perm (kJ m sn)) (ho:r.Pairwise fun a b=>a.1<=b.1):cM r (mVal m):=by
 have hp:=hr.trans (y0y m hs);have hk:(r.map (·.1)).Nodup:=(hp.map (·.1)).nodup_iff.2 ((Jw m).nodup hm);refine ⟨⟨?_,fun t ht=>HS (hp.mem_iff.1 ht)⟩,fun e=>by rw [y43 hp,W9 hm]⟩;have h2:r.Pairwise fun a b=>a.1≠b.1:=by
  have:=List.pairwise_map.1 hk
  exact this
 exact (ho.and h2).imp fun ⟨a,b⟩=>by omega
def mAdd (c d:Int):bg->List (Int×Int)->bg
 |m,[]=>m
 |m,t::p=>mAdd c d (mPut m (d+t.1) (c*t.2)) p
theorem Nu (c d:Int) (t:Int×Int): ∀(p:List (Int×Int)) (m:bg),mAdd c d m (p++[t])=mPut (mAdd c d m p) (d+t.1) (c*t.2)
 |[],_=>rfl
 |u::p,m=>Nu c d t p _
theorem JN (c d x:Int): ∀(p:List (Int×Int)) (m:bg),mVal (mAdd c d m p) x=mVal m x+c*cfL p (x-d)
 |[],m=>by simp [mAdd,cfL]
 |t::p,m=>by
  simp only [mAdd,cfL];rw [JN c d x p,Ty];by_cases h:x=d+t.1
  ·rw [zzJ h,zzJ (by omega),Int.mul_add];omega
  ·rw [zzI h,zzI (by omega)];simp
theorem oM.add {c d:Int}: ∀{p:List (Int×Int)} {m:bg} {k:Nat},oM m k->(∀t∈p,-1125899906842624<=c*t.2/\c*t.2<=1125899906842624)->oM (mAdd c d m p) (k+p.length)
 |[],m,k,h,_=>h
 |t::p,m,k,h,hb=>by
  have ht:=hb t (zzD ..)
  have:=oM.add (c:=c) (d:=d) (h.put (d+t.1) (v:=c*t.2) ht) (fun u hu=>hb u (zzE _ hu))
  simp only [mAdd,zzG];exact this.mono (by omega)
def jd (q:List (Int×Int)):bg->List (Int×Int)->bg
 |m,[]=>m
 |m,s::p=>jd q (mAdd s.2 s.1 m q) p
theorem Uz (q:List (Int×Int)) (s:Int×Int): ∀(p:List (Int×Int)) (m:bg),jd q m (p++[s])=mAdd s.2 s.1 (jd q m p) q
 |[],_=>rfl
 |u::p,m=>Uz q s p _
theorem Tx (q:List (Int×Int)) (x:Int): ∀(p:List (Int×Int)) (m:bg),mVal (jd q m p) x=mVal m x+cvL p (cfL q) x
 |[],m=>by simp [jd,cvL]
 |s::p,m=>by
  simp only [jd,cvL];rw [Tx q x p,JN];omega
theorem oM.mul {q:List (Int×Int)}: ∀{p:List (Int×Int)} {m:bg} {k:Nat},oM m k->(∀s∈p,∀t∈q,-1125899906842624<=s.2*t.2/\s.2*t.2<=1125899906842624)->oM (jd q m p) (k+p.length*q.length)
 |[],m,k,h,_=>by simpa [jd] using h
 |s::p,m,k,h,hb=>by
  have:=oM.mul (q:=q) (h.add (c:=s.2) (d:=s.1) (p:=q) (fun t ht=>hb s (zzD ..) t ht)) (p:=p) (fun u hu=>hb u (zzE _ hu))
  simp only [jd,zzG,Nat.succ_mul];exact this.mono (by omega)
theorem SR (u v c d:Int) (e:Int): ∀p:List (Int×Int),cvL p (cfL [(u,c),(v,d)]) e=c*cfL p (e-u)+d*cfL p (e-v)
 |[]=>by simp [cvL,cfL]
 |t::p=>by
  simp only [cvL,cfL];have ih:=SR u v c d e p;simp only [cfL] at ih;rw [ih,Int.mul_add,Int.mul_add,Int.mul_add];have e1:(t.2*if u=e-t.1 then c else 0)=c*if t.1=e-u then t.2 else 0:=by
   by_cases h:u=e-t.1
   ·rw [zzJ h,zzJ (by omega),Int.mul_comm]
   ·rw [zzI h,zzI (by omega)];simp
  have e2:(t.2*if v=e-t.1 then d else 0)=d*if t.1=e-v then t.2 else 0:=by
   by_cases h:v=e-t.1
   ·rw [zzJ h,zzJ (by omega),Int.mul_comm]
   ·rw [zzI h,zzI (by omega)];simp
  rw [Int.mul_add,e1,e2];omega
theorem Cq {sn:List Nat} {N:Nat} (hn:sn.Nodup) (hr: ∀i∈sn,i<N):sn.length<=N:=by
 have hp:(sn++(List.range N).filter fun i=> !sn.contains i).Perm (List.range N):=by
  refine (List.perm_ext_iff_of_nodup ?_ List.nodup_range).2 fun a=>?_
  ·rw [List.nodup_append];refine ⟨hn,List.nodup_range.filter _,fun a ha b hb h=>?_⟩;subst h;simp [ha] at hb
  ·by_cases h:a∈sn<;>simp [h];exact hr a h
 have:=hp.length_eq
 simp only [zzF,List.length_range] at this;omega
def s4 (m:bg) (M:Int):Prop:= ∀q∈m,(-M<=aJ q.1/\aJ q.1<=M)/\ -M<=aB q.1/\aB q.1<=M
theorem s4.put {m:bg} {M e v:Int} (h:s4 m M) (he:(-M<=aJ e/\aJ e<=M)/\ -M<=aB e/\aB e<=M):s4 (mPut m e v) M:=fun q hq=>by
 rcases MR hq with h1|h1
 ·exact h q h1
 ·rw [h1];exact he
theorem s4.add {c d M:Int}: ∀{p:List (Int×Int)} {m:bg},s4 m M->(∀t∈p,(-M<=aJ (d+t.1)/\aJ (d+t.1)<=M)/\ -M<=aB (d+t.1)/\aB (d+t.1)<=M)->s4 (mAdd c d m p) M
 |[],_,h,_=>h
 |t::p,m,h,hb=>s4.add (p:=p) (m:=mPut m (d+t.1) (c*t.2)) (h.put (hb t (zzD ..))) fun u hu=>hb u (zzE _ hu)
theorem s4.mul {q:List (Int×Int)} {M:Int}: ∀{p:List (Int×Int)} {m:bg},s4 m M->(∀s∈p,∀t∈q,(-M<=aJ (s.1+t.1)/\aJ (s.1+t.1)<=M)/\ -M<=aB (s.1+t.1)/\aB (s.1+t.1)<=M)->s4 (jd q m p) M
 |[],_,h,_=>h
 |s::p,m,h,hb=>s4.mul (p:=p) (m:=mAdd s.2 s.1 m q) (h.add (hb s (zzD ..))) fun u hu=>hb u (zzE _ hu)
theorem s4.len {m:bg} {M:Int} (h:s4 m M) (hn:(m.map (·.1)).Nodup) (hM:M<=300):m.length<=1000000:=by
 have hr: ∀i∈m.map fun q=>(aJ q.1*601+aB q.1+180600).toNat,i<361201:=fun i hi=>by
  obtain ⟨q,hq,rfl⟩:=List.mem_map.1 hi
  have:=h q hq
  omega
 have hd:(m.map fun q=>(aJ q.1*601+aB q.1+180600).toNat).Nodup:=by
  rw [List.nodup_iff_pairwise_ne] at hn⊢;rw [List.pairwise_map] at hn⊢;refine hn.imp_of_mem fun {a b} ha hb mQ he=>mQ ?_;have h1:=h a ha;have h2:=h b hb;have h3:aJ a.1=aJ b.1/\aB a.1=aB b.1:=by omega
  rw [<-rm a.1,<-rm b.1,h3.1,h3.2]
 have:=Cq hd hr
 rw [List.length_map] at this;omega
open Go Go.RowKit
abbrev kE (e:Int):ByteArray:=dV (aJ e) (aB e)
theorem Xz {e e':Int}:kE e=kE e'↔e=e':=by
 refine Uf.trans ⟨fun h=>?_,fun h=>by rw [h];exact ⟨rfl,rfl⟩⟩;rw [<-rm e,<-rm e',h.1,h.2]
def gmL:Nat->bg->List (ByteArray×Nat×AV)
 |_,[]=>[]
 |i,q::m=>(kE q.1,i, .agg [I q.2.1,I q.2.2])::gmL (i+1) m
theorem SQ: ∀(i:Nat) (m:bg),(gmL i m).length=m.length
 |_,[]=>rfl
 |i,q::m=>by simp only [gmL,zzG,SQ (i+1) m]
theorem Mo {q:ByteArray×Nat×AV}: ∀{i:Nat} {m:bg},q∈gmL i m-> ∃k u,m[k]?=some u/\q=(kE u.1,i+k, .agg [I u.2.1,I u.2.2])
 |_,[],h=>by cases h
 |i,u::m,h=>by
  rcases List.mem_cons.1 h with rfl|h
  ·exact ⟨0,u,rfl,rfl⟩
  ·obtain ⟨k,v,h1,rfl⟩:=Mo h;exact ⟨k+1,v,by simpa using h1,by rw [show i+1+k=i+(k+1) by omega]⟩
theorem Xy: ∀(i:Nat) (m:bg) (k:Nat) (u:Int×Int×Int),m[k]?=some u->(kE u.1,i+k,AV.agg [I u.2.1,I u.2.2])∈gmL i m
 |_,[],k,u,h=>by simp at h
 |i,v::m,0,u,h=>by simp at h;subst h;exact zzD ..
 |i,v::m,k+1,u,h=>by
  have:=Xy (i+1) m k u (by simpa using h)
  rw [show i+1+k=i+(k+1) by omega] at this;exact zzE _ this
theorem Uy: ∀(i:Nat) (m:bg) (k:Nat) (u:Int×Int×Int),m[k]?=some u->(gmL i m).find? (fun q=>q.2.1==i+k)=some (kE u.1,i+k,AV.agg [I u.2.1,I u.2.2])
 |_,[],k,u,h=>by simp at h
 |i,v::m,0,u,h=>by simp at h;subst h;simp [gmL]
 |i,v::m,k+1,u,h=>by
  have:=Uy (i+1) m k u (by simpa using h)
  rw [show i+1+k=i+(k+1) by omega] at this;simp only [gmL,List.find?_cons];rw [show (i==i+(k+1))=false by simp];exact this
theorem MP {e h l:Int} (v:Int): ∀{m:bg} (i:Nat),wG m e=some (h,l)-> ∃b,nX (gmL i m) (kE e)=some (kE e,b, .agg [I h,I l])/\AR (gmL i m) (kE e) (.agg [I (h+v/33554432),I (l+v % 33554432)])=gmL i (mPut m e v)/\(mPut m e v).length=m.length
 |[],_,h=>by cases h
 |q::m,i,h=>by
  simp only [wG] at h;unfold nX;simp only [gmL,AR,mPut,List.find?_cons];by_cases hq:q.1=e
  ·rw [zzJ hq] at h;obtain ⟨q1,q2,q3⟩:=q;cases h;dsimp only at hq;subst hq;exact ⟨i,by rw [decide_eq_true (by rfl)],by rw [zzJ rfl,zzJ rfl];rfl,by rw [zzJ rfl];rfl⟩
  ·rw [zzI hq] at h;have hk: ¬kE q.1=kE e:=fun h=>hq (Xz.1 h);obtain ⟨b,h1,h2,h3⟩:=MP v (i+1) h;unfold nX at h1;rw [decide_eq_false hk,zzI hk,zzI hq];exact ⟨b,h1,by rw [h2];rfl,by simp only [zzG,h3]⟩
theorem MO {e:Int} (v:Int): ∀{m:bg} (i:Nat),wG m e=none->nX (gmL i m) (kE e)=none/\gmL i m++[(kE e,i+m.length,AV.agg [I (v/33554432),I (v % 33554432)])]=gmL i (mPut m e v)/\(mPut m e v).length=m.length+1
 |[],i,_=>⟨rfl,rfl,rfl⟩
 |q::m,i,h=>by
  simp only [wG] at h;by_cases hq:q.1=e
  ·rw [zzJ hq] at h;cases h
  rw [zzI hq] at h;have hk: ¬kE q.1=kE e:=fun h=>hq (Xz.1 h);obtain ⟨h1,h2,h3⟩:=MO v (i+1) h;unfold nX at h1⊢;simp only [gmL,mPut,List.find?_cons];rw [decide_eq_false hk,zzI hq];refine ⟨h1,?_,by simp only [zzG,h3]⟩;rw [show i+(q::m).length=i+1+m.length by simp only [zzG];omega,List.cons_append,h2];rfl
theorem wN (F:ByteArray×Nat×AV->Bool) (h: ∀e i a b,F (kE e,i, .agg [I a,I b])=true): ∀(i:Nat) (m:bg),(gmL i m).all F=true
 |_,[]=>rfl
 |i,q::m=>by simp only [gmL,List.all_cons,wN F h (i+1) m,Bool.and_true];exact h _ _ _ _
theorem BO (H:Hp): ∀(i:Nat) (m:bg),((gmL i m).all fun q=>s3 H q.2.2)=true
 |_,[]=>rfl
 |i,q::m=>by simp only [gmL,List.all_cons,BO H (i+1) m,Bool.and_true];rfl
theorem Xx: ∀(i:Nat) (m:bg),((gmL i m).all fun q=>p3 q.2.2)=true
 |_,[]=>rfl
 |i,q::m=>by simp only [gmL,List.all_cons,Xx (i+1) m,Bool.and_true];rfl
theorem ur (H:Hp) (t ck i:Nat) (m:bg):sO H (.gmap t ck (gmL i m))=true:=BO H i m
section
variable {P:Program} {N:Nat} {fr:Fr} {H:Hp} {o:Oper}
theorem qD.Cx {ops:Array Oper} {rr:List Oper} {K:Fr->Hp->Prop} {t kt et id T ck:Nat} {x:Operand} {l:List (ByteArray×Nat×AV)} (ho:o.op= .call {callee:= .builtin .len,args:= #[x],argTypes:= #[t]}) (hd:dok o.dst N=true) (fm:tk P t= .map kt et)
  (hx:evA fr x= .mp id) (h1:hget H id=some (.gmap T ck l)) (h:awL P N ops rr (fput fr o.dst (I l.length)) H K):qD P N ops fr H K o rr:=by
 refine qD.Ky ?_ ?_ ?_ ?_
 ·rw [ho];rfl
 ·rw [ho];simp only [quF,opF,lenF,fm]
 ·rw [ho];rfl
 unfold awX;rw [ho];refine ⟨rfl,fun B w0 Mx w ρ ac tr Q=>?_⟩;have ex:=(hx▸tr.ev x).eI;obtain ⟨es,g1,g2,_⟩:=tr.objs id _ h1;have hl:(Builtin.len_ #[t] o.type #[ac.eval x]).run P w= .ok (.int .i64 l.length) w:=by
  rw [ex];simp [Builtin.len_,run_underlying (qo fm),getObj,Sem.run,g1,g2,goInt]
 have bd:(execOp ac.eval o).run P w= .ok (.value (.int .i64 l.length)) w:=by
  simp [execOp,ho,resolve,invoke,builtin,hl]
 exact Oper.jO bd ⟨ρ,_,_,h,tr.put hd (.int .i64 _)⟩
end
set_option maxHeartbeats 8000000
theorem A1 {H H':Hp} (hm: ∀k,(hget H k).isSome=true->(hget H' k).isSome=true): ∀(x:AV),s1 H x=true->s1 H' x=true
 | .ptr i _,h=>hm i h
 | .sl _ i _ _,h=>hm i h
 | .mp i,h=>hm i h
 | .agg _,h=>h
 | .tup _,h=>h
 | .fn _ _,h=>h
 | .any,h=>h
 | .int _ _,h=>h
 | .bool _,h=>h
 | .str _,h=>h
 | .nils,h=>h
 | .ro _ _ _,h=>h
 | .rp _ _,h=>h
theorem Mn {H H':Hp} (hm: ∀k,(hget H k).isSome=true->(hget H' k).isSome=true): ∀(x:AV),s2 H x=true->s2 H' x=true
 | .ptr i o,h=>A1 hm (.ptr i o) h
 | .sl e i o l,h=>A1 hm (.sl e i o l) h
 | .mp i,h=>A1 hm (.mp i) h
 | .agg xs,h=>List.all_eq_true.2 fun y hy=>A1 hm y (List.all_eq_true.1 h y hy)
 | .tup _,h=>h
 | .fn _ xs,h=>List.all_eq_true.2 fun y hy=>A1 hm y (List.all_eq_true.1 h y hy)
 | .any,h=>h
 | .int _ _,h=>h
 | .bool _,h=>h
 | .str _,h=>h
 | .nils,h=>h
 | .ro _ _ _,h=>h
 | .rp _ _,h=>h
theorem y8f {H H':Hp} (hm: ∀k,(hget H k).isSome=true->(hget H' k).isSome=true): ∀(x:AV),s3 H x=true->s3 H' x=true
 | .ptr i o,h=>A1 hm (.ptr i o) h
 | .sl e i o l,h=>A1 hm (.sl e i o l) h
 | .mp i,h=>A1 hm (.mp i) h
 | .agg xs,h=>List.all_eq_true.2 fun y hy=>Mn hm y (List.all_eq_true.1 h y hy)
 | .tup xs,h=>List.all_eq_true.2 fun y hy=>Mn hm y (List.all_eq_true.1 h y hy)
 | .fn _ xs,h=>List.all_eq_true.2 fun y hy=>Mn hm y (List.all_eq_true.1 h y hy)
 | .any,h=>h
 | .int _ _,h=>h
 | .bool _,h=>h
 | .str _,h=>h
 | .nils,h=>h
 | .ro _ _ _,h=>h
 | .rp _ _,h=>h
section
variable {O:Hp} {i j:Nat} (hi:(hget O i).isSome=false) (hj:(hget O j).isSome=false)
include hi hj
end
theorem N8 {fr:Fr} {H:Hp} (h:fr.all (fun q=>s3 H q.2)=true) (t:Nat):fget fr t= .any\/s3 H (fget fr t)=true:=by
 induction fr with
 |nil=>exact .inl rfl
 |cons q fr ih=>
  obtain ⟨s,x⟩:=q;simp only [List.all_cons,zzS] at h;simp only [fget]
  split
  ·exact .inr h.1
  ·exact ih h.2
end Go.Proofs.YtjpbeacamoijhaaGreatDoor
