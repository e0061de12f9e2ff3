/- Plain: circles of a state (for the bracket). -/
import Derived.Test.YtjpbeacamoijhaaDoorPl
set_option linter.unusedSimpArgs false
set_option linter.unusedVariables false
namespace Go.Proofs.YtjpbeacamoijhaaDoor
def yba (R:List Int) (g h:Nat):List Int:=if R.getD g 0=R.getD h 0 then R else R.map fun r=>if r=R.getD g 0 then R.getD h 0 else r
def roots (R:List Int):Nat:=(List.range R.length).countP fun x=>R.getD x 0==(x:Int)
structure RepR (R:List Int) (N:Nat):Prop where
 len:R.length=N
 rng: ∀x,x<N->0<=R.getD x 0/\R.getD x 0<N
 idem: ∀x,x<N->R.getD (R.getD x 0).toNat 0=R.getD x 0
theorem ytb {α β:Type} (l:List α) (f:α->β) (i:Nat) (d:α) (e:β) (h:i<l.length):(l.map f).getD i e=f (l.getD i d):=by simp [h]
section
variable {R:List Int} {N:Nat}
theorem yo7 (R:List Int) (g h:Nat):(yba R g h).length=R.length:=by unfold yba;split<;>simp
theorem ybs (hl:R.length=N) {g h x:Nat} (hx:x<N):(yba R g h).getD x 0=if R.getD x 0=R.getD g 0 then R.getD h 0 else R.getD x 0:=by
 unfold yba
 split
 ·rename_i e;split
  ·omega
  ·rfl
 ·rw [ytb _ _ _ 0 _ (by omega)]
theorem yhj (hR:RepR R N) {g h:Nat} (hg:g<N) (hh:h<N):RepR (yba R g h) N:=by
 refine ⟨by rw [yo7];exact hR.len,fun x hx=>?_,fun x hx=>?_⟩
 ·rw [ybs hR.len hx];have:=hR.rng x hx;have:=hR.rng h hh;split<;>omega
 ·rw [ybs hR.len hx]
  have r1:=hR.rng x hx
  have r2:=hR.rng h hh
  by_cases e:R.getD x 0=R.getD g 0
  ·rw [if_pos e,ybs hR.len (by omega),hR.idem h hh];split<;>rfl
  ·rw [if_neg e,ybs hR.len (by omega),hR.idem x hx,if_neg e]
theorem ydg (hl:R.length=N) {g h x y:Nat} (hx:x<N) (hy:y<N) (e:R.getD x 0=R.getD y 0):(yba R g h).getD x 0=(yba R g h).getD y 0:=by
 rw [ybs hl hx,ybs hl hy,e]
theorem ygh (hl:R.length=N) {g h:Nat} (hg:g<N) (hh:h<N):(yba R g h).getD g 0=(yba R g h).getD h 0:=by
 rw [ybs hl hg,ybs hl hh,if_pos rfl];split<;>rfl
theorem ytc (p q:Nat->Bool) (N a:Nat) (ha:a<N) (h1:p a=true) (h2:q a=false) (h: ∀x,x<N->x≠a->p x=q x):(List.range N).countP p=(List.range N).countP q+1:=by
 induction N with
 |zero=>omega
 |succ N ih=>
  rw [List.range_succ,List.countP_append,List.countP_append]
  by_cases e:a=N
  ·subst e
   have:(List.range a).countP p=(List.range a).countP q:=List.countP_congr fun x hx=>by
    have:=List.mem_range.1 hx
    rw [h x (by omega) (by omega)]
   simp [this,h1,h2]
  ·have:=ih (by omega) (fun x hx hn=>h x (by omega) hn)
   have e2:=h N (by omega) (by omega)
   simp only [List.countP_cons,List.countP_nil,e2];omega
theorem ytd (hR:RepR R N) {g h:Nat} (hg:g<N) (hh:h<N) (hne:R.getD g 0≠R.getD h 0):roots R=roots (yba R g h)+1:=by
 have r1:=hR.rng g hg
 unfold roots
 rw [yo7]
 have hl:=hR.len
 refine ytc _ _ R.length (R.getD g 0).toNat (by omega) ?_ ?_ ?_
 ·rw [hR.idem g hg];simp only [beq_iff_eq];omega
 ·rw [ybs hR.len (by omega),hR.idem g hg,if_pos rfl]
  simp only [beq_eq_false_iff_ne,ne_eq];omega
 ·intro x hx hn
  rw [ybs hR.len (by omega)]
  by_cases e:R.getD x 0=R.getD g 0
  ·rw [if_pos e,e]
   have e1:(R.getD g 0==(x:Int))=false:=by simp only [beq_eq_false_iff_ne,ne_eq];omega
   have e2:(R.getD h 0==(x:Int))=false:=by
    simp only [beq_eq_false_iff_ne,ne_eq]
    intro e3
    have:=hR.idem h hh
    rw [e3] at this
    simp only [Int.toNat_natCast] at this
    omega
   rw [e1,e2]
  ·rw [if_neg e]
end
structure Inv2 (n:Nat) (mt jn:Int->Int):Prop where
 mr: ∀x,InR n x->InR n (mt x)
 jr: ∀x,InR n x->InR n (jn x)
 mm: ∀x,InR n x->mt (mt x)=x
 jj: ∀x,InR n x->jn (jn x)=x
 mf: ∀x,InR n x->mt x≠x
 jf: ∀x,InR n x->jn x≠x
inductive Cir (mt jn:Int->Int):Int->Int->Prop
 |refl (x:Int):Cir mt jn x x
 |mate {x y:Int} (h:Cir mt jn x y):Cir mt jn x (mt y)
 |join {x y:Int} (h:Cir mt jn x y):Cir mt jn x (jn y)
section
variable {n:Nat} {mt jn:Int->Int}
theorem Cir.trans {x y z:Int} (h1:Cir mt jn x y) (h2:Cir mt jn y z):Cir mt jn x z:=by
 induction h2 with
 |refl=>exact h1
 |mate _ ih=>exact .mate ih
 |join _ ih=>exact .join ih
theorem Cir.rng (hi:Inv2 n mt jn) {x y:Int} (h:Cir mt jn x y) (hx:InR n x):InR n y:=by
 induction h with
 |refl=>exact hx
 |mate _ ih=>exact hi.mr _ ih
 |join _ ih=>exact hi.jr _ ih
theorem Cir.symm (hi:Inv2 n mt jn) {x y:Int} (h:Cir mt jn x y) (hx:InR n x):Cir mt jn y x:=by
 induction h with
 |refl=>exact .refl _
 | @mate y h ih=>
   have h1:=Cir.mate (mt:=mt) (jn:=jn) (Cir.refl (mt y))
   rw [hi.mm y (h.rng hi hx)] at h1
   exact h1.trans ih
 | @join y h ih=>
   have h1:=Cir.join (mt:=mt) (jn:=jn) (Cir.refl (jn y))
   rw [hi.jj y (h.rng hi hx)] at h1
   exact h1.trans ih
structure CirR (n:Nat) (mt jn:Int->Int) (R:List Int):Prop where
 rep:RepR R (4*n)
 iff: ∀x y:Nat,x<4*n->y<4*n->(R.getD x 0=R.getD y 0↔Cir mt jn x y)
theorem CirR.of {R:List Int} (hi:Inv2 n mt jn) (hR:RepR R (4*n)) (h1: ∀x y:Nat,x<4*n->y<4*n->R.getD x 0=R.getD y 0->Cir mt jn x y)
  (h2: ∀x:Nat,x<4*n->R.getD (mt x).toNat 0=R.getD x 0) (h3: ∀x:Nat,x<4*n->R.getD (jn x).toNat 0=R.getD x 0):CirR n mt jn R:=by
 refine ⟨hR,fun x y hx hy=>⟨h1 x y hx hy,fun h=>?_⟩⟩
 have key: ∀z,Cir mt jn x z->R.getD z.toNat 0=R.getD x 0:=by
  intro z hz
  induction hz with
  |refl=>simp
  | @mate y h ih=>
    have:=h.rng hi (by unfold InR;omega)
    unfold InR at this
    have h4:=h2 y.toNat (by omega)
    rw [show ((y.toNat:Nat):Int)=y by omega] at h4
    rw [h4,ih]
  | @join y h ih=>
    have:=h.rng hi (by unfold InR;omega)
    unfold InR at this
    have h4:=h3 y.toNat (by omega)
    rw [show ((y.toNat:Nat):Int)=y by omega] at h4
    rw [h4,ih]
 have:=key y h
 simpa using this.symm
theorem yce: ∀{l k:List Nat},l.Nodup->(∀x∈l,x∈k)->l.length<=k.length
 |[],_,_,_=>Nat.zero_le _
 |x::l,k,hn,hs=>by
  have hx:=hs x (by simp)
  obtain ⟨hx',hn'⟩:=List.nodup_cons.1 hn
  have:=yce (l:=l) (k:=k.erase x) hn' (fun y hy=>(List.mem_erase_of_ne (by intro e;subst e;exact hx' hy)).2 (hs y (by simp [hy])))
  have h2:=List.length_erase_of_mem hx
  have h3:=List.length_pos_of_mem hx
  simp only [List.length_cons];omega
theorem yi0 {R L:List Int} (hR:RepR R (4*n)) (hL:RepR L (4*n)) (h: ∀x y:Nat,x<4*n->y<4*n->(R.getD x 0=R.getD y 0↔L.getD x 0=L.getD y 0)):roots L<=roots R:=by
 unfold roots
 rw [List.countP_eq_length_filter,List.countP_eq_length_filter]
 have hlen:((List.range L.length).filter fun x=>L.getD x 0==(x:Int)).length=(((List.range L.length).filter fun x=>L.getD x 0==(x:Int)).map fun x=>(R.getD x 0).toNat).length:=by simp
 rw [hlen]
 refine yce ?_ ?_
 ·rw [List.nodup_iff_pairwise_ne,List.pairwise_map]
  refine List.Pairwise.imp_of_mem ?_ (List.nodup_iff_pairwise_ne.1 (List.Nodup.sublist List.filter_sublist List.nodup_range))
  intro a b ha hb hne e
  simp only [List.mem_filter,List.mem_range,beq_iff_eq,hL.len] at ha hb
  have r1:=hR.rng a (by omega)
  have r2:=hR.rng b (by omega)
  have:=(h a b (by omega) (by omega)).1 (by omega)
  omega
 ·intro x hx
  simp only [List.mem_map,List.mem_filter,List.mem_range,beq_iff_eq,hL.len] at hx
  obtain ⟨a,⟨ha,_⟩,rfl⟩:=hx
  have r1:=hR.rng a (by omega)
  have:=hR.idem a (by omega)
  simp only [List.mem_filter,List.mem_range,beq_iff_eq,hR.len]
  omega
theorem yrh {R L:List Int} (hR:CirR n mt jn R) (hL:CirR n mt jn L):roots R=roots L:=
 Nat.le_antisymm (yi0 hL.rep hR.rep fun x y hx hy=>by rw [hL.iff x y hx hy,hR.iff x y hx hy]) (yi0 hR.rep hL.rep fun x y hx hy=>by rw [hL.iff x y hx hy,hR.iff x y hx hy])
theorem ye3 (hi:Inv2 n mt jn):Perm (fun x=>jn (mt x)) (4*n) (InR n):=
 ⟨fun x hx=>by unfold InR at hx;omega,fun x hx=>hi.jr _ (hi.mr _ hx),fun x y hx hy e=>by
  have h1:=congrArg jn e
  rw [hi.jj _ (hi.mr _ hx),hi.jj _ (hi.mr _ hy)] at h1
  have h2:=congrArg mt h1
  rwa [hi.mm _ hx,hi.mm _ hy] at h2⟩
theorem yri (hi:Inv2 n mt jn) {x:Int} (hx:InR n x): ∀d i j,i+d=j->it (fun x=>jn (mt x)) j x≠mt (it (fun x=>jn (mt x)) i x)/\it (fun x=>jn (mt x)) i x≠mt (it (fun x=>jn (mt x)) j x):=by
 have hR: ∀j,InR n (it (fun x=>jn (mt x)) j x):=fun j=>(ye3 hi).it hx j
 have hflip: ∀i j,it (fun x=>jn (mt x)) j x=mt (it (fun x=>jn (mt x)) i x)->it (fun x=>jn (mt x)) i x=mt (it (fun x=>jn (mt x)) j x):=fun i j e=>by rw [e,hi.mm _ (hR i)]
 intro d
 induction d using Nat.strongRecOn with
 |_ d ih=>
  intro i j hd
  have key:it (fun x=>jn (mt x)) j x≠mt (it (fun x=>jn (mt x)) i x):=by
   intro e
   by_cases h0:d=0
   ·obtain rfl:j=i:=by omega
    exact hi.mf _ (hR j) e.symm
   ·by_cases h1:d=1
    ·obtain rfl:j=i+1:=by omega
     exact hi.jf _ (hi.mr _ (hR i)) e
    ·--shift both towards each other
     have e2:it (fun x=>jn (mt x)) (i+1) x=mt (it (fun x=>jn (mt x)) (j-1) x):=by
      show jn (mt (it (fun x=>jn (mt x)) i x))=_
      rw [←e]
      conv=>lhs;rw [show j=(j-1)+1 by omega]
      exact hi.jj _ (hi.mr _ (hR (j-1)))
     exact (ih (d-2) (by omega) (i+1) (j-1) (by omega)).2 e2
  exact ⟨key,fun e=>key (hflip j i e)⟩
def crW (mt jn:Int->Int) (h:Int):Nat->List Int->Int->List Int
 |0,out,_=>out
 |f+1,out,g=>if out.getD g.toNat 0<0 then crW mt jn h f ((out.set g.toNat h).set (mt g).toNat h) (jn (mt g)) else out
def crN (mt jn:Int->Int) (N:Nat):Nat->List Int
 |0=>List.replicate N (-1)
 |h+1=>if 0<=(crN mt jn N h).getD h 0 then crN mt jn N h else crW mt jn h (N+1) (crN mt jn N h) h
def onW (mt jn:Int->Int) (x:Int) (k:Nat) (y:Int):Prop:= ∃j,j<k/\(y=it (fun x=>jn (mt x)) j x\/y=mt (it (fun x=>jn (mt x)) j x))
theorem y2s (hi:Inv2 n mt jn) {x:Nat} (hx:x<4*n) {k:Nat} (hk:Per (fun x=>jn (mt x)) x k) {out0:List Int} (hl0:out0.length=4*n)
  (hu: ∀j,j<k->out0.getD (it (fun x=>jn (mt x)) j x).toNat 0<0):
  ∀d j f (out:List Int),d=k-j->j<=k->d<f->out.length=4*n->(∀y:Nat,y<4*n->(onW mt jn x j y->out.getD y 0=x)/\(¬onW mt jn x j y->out.getD y 0=out0.getD y 0))->
  (crW mt jn x f out (it (fun x=>jn (mt x)) j x)).length=4*n/\ ∀y:Nat,y<4*n->(onW mt jn x k y->(crW mt jn x f out (it (fun x=>jn (mt x)) j x)).getD y 0=x)/\(¬onW mt jn x k y->(crW mt jn x f out (it (fun x=>jn (mt x)) j x)).getD y 0=out0.getD y 0):=by
 have hx':InR n (x:Int):=by unfold InR;omega
 have hR: ∀j,InR n (it (fun x=>jn (mt x)) j x):=fun j=>(ye3 hi).it hx' j
 have hk0:=hk.pos
 intro d
 induction d with
 |zero=>
  intro j f out hd hj hf hl hy
  obtain rfl:j=k:=by omega
  obtain ⟨f',rfl⟩: ∃f',f=f'+1:=⟨f-1,by omega⟩
  have e:out.getD (it (fun x=>jn (mt x)) j x).toNat 0=x:=by
   rw [hk.back];exact (hy x hx).1 ⟨0,hk0, .inl rfl⟩
  unfold crW
  rw [if_neg (by omega)]
  exact ⟨hl,hy⟩
 |succ d ih=>
  intro j f out hd hj hf hl hy
  obtain ⟨f',rfl⟩: ∃f',f=f'+1:=⟨f-1,by omega⟩
  have r1:=hR j
  have r2:=hi.mr _ (hR j)
  unfold InR at r1 r2
  have hnot: ¬onW mt jn x j (it (fun x=>jn (mt x)) j x):=by
   rintro ⟨i,hij,e|e⟩
   ·have:=(ye3 hi).cancel hx' i (j-i) (by rw [show i+(j-i)=j by omega];exact e)
    exact hk.first (j-i) (by omega) (by omega) this
   ·exact (yri hi hx' (j-i) i j (by omega)).1 e
  have e:out.getD (it (fun x=>jn (mt x)) j x).toNat 0<0:=by
   have h1:=(hy (it (fun x=>jn (mt x)) j x).toNat (by omega)).2
   rw [show (((it (fun x=>jn (mt x)) j x).toNat:Nat):Int)=it (fun x=>jn (mt x)) j x by omega] at h1
   rw [h1 hnot];exact hu j (by omega)
  unfold crW
  rw [if_pos e]
  refine ih (j+1) f' _ (by omega) (by omega) (by omega) (by simp [hl]) fun y hyn=>?_
  have hset:((out.set (it (fun x=>jn (mt x)) j x).toNat x).set (mt (it (fun x=>jn (mt x)) j x)).toNat x).getD y 0=if (y:Int)=it (fun x=>jn (mt x)) j x\/(y:Int)=mt (it (fun x=>jn (mt x)) j x) then (x:Int) else out.getD y 0:=by
   by_cases e1:(mt (it (fun x=>jn (mt x)) j x)).toNat=y
   ·rw [e1,yas (by simp [hl];omega),if_pos (.inr (by omega))]
   ·rw [yaq e1]
    by_cases e2:(it (fun x=>jn (mt x)) j x).toNat=y
    ·rw [e2,yas (by omega),if_pos (.inl (by omega))]
    ·rw [yaq e2,if_neg (by omega)]
  rw [hset]
  constructor
  ·rintro ⟨i,hij,hor⟩
   rcases Nat.lt_or_ge i j with q|q
   ·split
    ·rfl
    ·exact (hy y hyn).1 ⟨i,q,hor⟩
   ·obtain rfl:i=j:=by omega
    rw [if_pos hor]
  ·intro hno
   rw [if_neg fun hor=>hno ⟨j,by omega,hor⟩]
   exact (hy y hyn).2 fun ⟨i,hij,hor⟩=>hno ⟨i,by omega,hor⟩
theorem yn3 (hi:Inv2 n mt jn) {x:Int} (hx:InR n x) {k:Nat} (hk:Per (fun x=>jn (mt x)) x k) {y:Int}:onW mt jn x k y↔Cir mt jn x y:=by
 have hR: ∀j,InR n (it (fun x=>jn (mt x)) j x):=fun j=>(ye3 hi).it hx j
 have hk0:=hk.pos
 constructor
 ·rintro ⟨j,hj,h⟩
  have hc: ∀j,Cir mt jn x (it (fun x=>jn (mt x)) j x):=by
   intro j
   induction j with
   |zero=>exact .refl _
   |succ j ih=>exact .join (.mate ih)
  rcases h with rfl|rfl
  ·exact hc j
  ·exact .mate (hc j)
 ·intro h
  induction h with
  |refl=>exact ⟨0,hk0, .inl rfl⟩
  |mate _ ih=>
   obtain ⟨j,hj,h⟩:=ih
   rcases h with rfl|rfl
   ·exact ⟨j,hj, .inr rfl⟩
   ·exact ⟨j,hj, .inl (hi.mm _ (hR j))⟩
  |join _ ih=>
   obtain ⟨j,hj,h⟩:=ih
   rcases h with rfl|rfl
   ·--jn of the j-th is the mate of the one before
    by_cases h0:j=0
    ·subst h0
     refine ⟨k-1,by omega, .inr ?_⟩
     have:it (fun x=>jn (mt x)) ((k-1)+1) x=x:=by rw [show (k-1)+1=k by omega];exact hk.back
     have h2:jn (mt (it (fun x=>jn (mt x)) (k-1) x))=x:=this
     show jn x=_
     rw [←h2,hi.jj _ (hi.mr _ (hR _)),h2]
    ·refine ⟨j-1,by omega, .inr ?_⟩
     conv=>lhs;rw [show j=(j-1)+1 by omega]
     exact hi.jj _ (hi.mr _ (hR (j-1)))
   ·by_cases h1:j+1<k
    ·exact ⟨j+1,h1, .inl rfl⟩
    ·refine ⟨0,hk0, .inl ?_⟩
     have:it (fun x=>jn (mt x)) (j+1) x=x:=by rw [show j+1=k by omega];exact hk.back
     exact this
structure CrI (n:Nat) (mt jn:Int->Int) (h:Nat) (out:List Int):Prop where
 len:out.length=4*n
 yes: ∀y:Nat,y<4*n->0<=out.getD y 0->out.getD y 0<h/\Cir mt jn (out.getD y 0) y/\out.getD (out.getD y 0).toNat 0=out.getD y 0
 clo: ∀a b:Nat,a<4*n->b<4*n->0<=out.getD a 0->Cir mt jn a b->out.getD b 0=out.getD a 0
 low: ∀y:Nat,y<h->0<=out.getD y 0
theorem y34 (hi:Inv2 n mt jn): ∀h,h<=4*n->CrI n mt jn h (crN mt jn (4*n) h)
 |0,_=>⟨by simp [crN],fun y hy h=>by simp [crN,hy] at h,fun a b ha _ h=>by simp [crN,ha] at h,fun y hy=>by omega⟩
 |h+1,hh=>by
  have ih:=y34 hi h (by omega)
  simp only [crN]
  by_cases hs:0<=(crN mt jn (4*n) h).getD h 0
  ·rw [if_pos hs]
   refine ⟨ih.len,fun y hy h0=>?_,ih.clo,fun y hy=>?_⟩
   ·obtain ⟨h1,h2,h3⟩:=ih.yes y hy h0;exact ⟨by omega,h2,h3⟩
   ·rcases Nat.lt_or_ge y h with q|q
    ·exact ih.low y q
    ·rwa [show y=h by omega]
  ·rw [if_neg hs]
   have hR:InR n (h:Int):=by unfold InR;omega
   obtain ⟨k,hkN,hk⟩:=(ye3 hi).per hR
   generalize crN mt jn (4*n) h=out0 at*
   have hfree: ∀y:Nat,y<4*n->Cir mt jn h y->out0.getD y 0<0:=by
    intro y hy hc
    rcases Int.lt_or_le (out0.getD y 0) 0 with q|q
    ·exact q
    ·have:=ih.clo y h hy (by omega) q (hc.symm hi hR);omega
   have hsp:=y2s hi (x:=h) (by omega) hk ih.len (fun j hj=>by
    have hr:=(ye3 hi).it hR j
    have hc:=(yn3 hi hR hk).1 ⟨j,hj, .inl rfl⟩
    unfold InR at hr
    refine hfree _ (by omega) ?_
    rw [show (((it (fun x=>jn (mt x)) j h).toNat:Nat):Int)=it (fun x=>jn (mt x)) j h by omega]
    exact hc) k 0 (4*n+1) out0 (by omega) (by omega) (by omega) ih.len (fun y hy=>⟨fun ⟨j,hj,_⟩=>by omega,fun _=>rfl⟩)
   have h0:it (fun x=>jn (mt x)) 0 (h:Int)=h:=rfl
   rw [h0] at hsp
   obtain ⟨hlen,hsp⟩:=hsp
   generalize crW mt jn h (4*n+1) out0 h=out at*
   have hin: ∀y:Nat,y<4*n->Cir mt jn h y->out.getD y 0=h:=fun y hy hc=>(hsp y hy).1 ((yn3 hi hR hk).2 hc)
   have hout: ∀y:Nat,y<4*n-> ¬Cir mt jn h y->out.getD y 0=out0.getD y 0:=fun y hy hc=>(hsp y hy).2 fun ho=>hc ((yn3 hi hR hk).1 ho)
   refine ⟨hlen,fun y hy h1=>?_,fun a b ha hb h1 hab=>?_,fun y hy=>?_⟩
   ·by_cases hc:Cir mt jn h y
    ·rw [hin y hy hc]
     refine ⟨by omega,hc,?_⟩
     simp only [Int.toNat_natCast]
     exact hin h (by omega) (.refl _)
    ·rw [hout y hy hc] at h1⊢
     obtain ⟨g1,g2,g3⟩:=ih.yes y hy h1
     refine ⟨by omega,g2,?_⟩
     have hz: ¬Cir mt jn h ((out0.getD y 0).toNat:Nat):=by
      intro hc'
      rw [show (((out0.getD y 0).toNat:Nat):Int)=out0.getD y 0 by omega] at hc'
      exact hc (hc'.trans g2)
     rw [hout _ (by omega) hz];exact g3
   ·by_cases hc:Cir mt jn h a
    ·rw [hin a ha hc,hin b hb (hc.trans hab)]
    ·have hcb: ¬Cir mt jn h b:=fun hcb=>hc (hcb.trans (hab.symm hi (by unfold InR;omega)))
     rw [hout a ha hc] at h1⊢
     rw [hout b hb hcb]
     exact ih.clo a b ha hb h1 hab
   ·by_cases hc:Cir mt jn h y
    ·rw [hin y (by omega) hc];omega
    ·rw [hout y (by omega) hc]
     rcases Nat.lt_or_ge y h with q|q
     ·exact ih.low y q
     ·exact absurd (by rw [show y=h by omega];exact .refl _) hc
theorem y9q (hi:Inv2 n mt jn):CirR n mt jn (crN mt jn (4*n) (4*n)):=by
 have h:=y34 hi (4*n) (Nat.le_refl _)
 refine ⟨⟨h.len,fun x hx=>?_,fun x hx=>(h.yes x hx (h.low x hx)).2.2⟩,fun x y hx hy=>⟨fun e=>?_,fun hc=>(h.clo x y hx hy (h.low x hx) hc).symm⟩⟩
 ·have:=(h.yes x hx (h.low x hx)).1;exact ⟨h.low x hx,by omega⟩
 ·have h1:=(h.yes x hx (h.low x hx)).2.1
  have h2:=(h.yes y hy (h.low y hy)).2.1
  rw [←e] at h2
  have h3:=(h.yes x hx (h.low x hx)).1
  have h4:=h.low x hx
  exact (h1.symm hi (by unfold InR;omega)).trans h2
end
def mgA (m:List Int):Nat->List Int
 |0=>(List.range m.length).map (Nat.cast:Nat->Int)
 |k+1=>if (k:Int)<m.getD k 0 then yba (mgA m k) k (m.getD k 0).toNat else mgA m k
def mgB (m:List Int) (ch:Nat->Bool):Nat->List Int
 |0=>mgA m m.length
 |k+1=>if ch k then yba (yba (mgB m ch k) (4*k+1) (4*k+2)) (4*k+3) (4*k) else yba (yba (mgB m ch k) (4*k) (4*k+1)) (4*k+2) (4*k+3)
end Go.Proofs.YtjpbeacamoijhaaDoor
set_option linter.unusedSimpArgs false
set_option linter.unusedVariables false
namespace Go.Proofs.YtjpbeacamoijhaaDoor
structure UF (l R:List Int) (N:Nat):Prop where
 rep:RepR R N
 len:l.length=N
 rng: ∀x,x<N->0<=l.getD x 0/\l.getD x 0<N
 same: ∀x,x<N->R.getD (l.getD x 0).toNat 0=R.getD x 0
 root: ∀x:Nat,x<N->(l.getD x 0=x↔R.getD x 0=x)
 rank: ∃rk:Nat->Nat,∀x:Nat,x<N->l.getD x 0≠x->rk (l.getD x 0).toNat<rk x
section
variable {l R:List Int} {N:Nat}
theorem UF.init (N:Nat):UF ((List.range N).map (Nat.cast:Nat->Int)) ((List.range N).map (Nat.cast:Nat->Int)) N:=by
 have hg: ∀x,x<N->((List.range N).map (Nat.cast:Nat->Int)).getD x 0=x:=fun x hx=>by simp [hx]
 exact ⟨⟨by simp,fun x hx=>by rw [hg x hx];omega,fun x hx=>by rw [hg x hx];simpa using hg x hx⟩,by simp,fun x hx=>by rw [hg x hx];omega,fun x hx=>by rw [hg x hx];simpa using hg x hx,
  fun x hx=>by rw [hg x hx],fun x=>x,fun x hx hn=>absurd (hg x hx) hn⟩
end
end Go.Proofs.YtjpbeacamoijhaaDoor
