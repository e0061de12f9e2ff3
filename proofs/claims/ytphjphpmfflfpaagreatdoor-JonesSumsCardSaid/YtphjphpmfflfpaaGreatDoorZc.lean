/- Plain: circles of a state (for the bracket). -/
import Derived.Test.YtphjphpmfflfpaaGreatDoorPl
set_option linter.unusedSimpArgs false
set_option linter.unusedVariables false
namespace Go.Proofs.YtphjphpmfflfpaaGreatDoor
def eg (R:List Int) (g h:Nat):List Int:=if R.getD g 0=R.getD h 0 then R else R.map fun r=>if r=R.getD g 0 then R.getD h 0 else r
def roots (R:List Int):Nat:=(List.range R.length).countP fun x=>R.getD x 0==(x:Int)
structure gG (R:List Int) (N:Nat):Prop where
 len:R.length=N
 cn: ∀x,x<N->0<=R.getD x 0/\R.getD x 0<N
 idem: ∀x,x<N->R.getD (R.getD x 0).toNat 0=R.getD x 0
theorem T1 {α β:Type} (l:List α) (f:α->β) (i:Nat) (d:α) (e:β) (h:i<l.length):(l.map f).getD i e=f (l.getD i d):=by simp [h]
section
variable {R:List Int} {N:Nat}
theorem Tf (R:List Int) (g h:Nat):(eg R g h).length=R.length:=by unfold eg;split<;>simp
theorem n7 (hl:R.length=N) {g h x:Nat} (hx:x<N):(eg R g h).getD x 0=if R.getD x 0=R.getD g 0 then R.getD h 0 else R.getD x 0:=by
 unfold eg
 split
 ·rename_i e;split
  ·omega
  ·rfl
 ·rw [T1 _ _ _ 0 _ (by omega)]
theorem BU (hR:gG R N) {g h:Nat} (hg:g<N) (hh:h<N):gG (eg R g h) N:=by
 refine ⟨by rw [Tf];exact hR.len,fun x hx=>?_,fun x hx=>?_⟩
 ·rw [n7 hR.len hx];have:=hR.cn x hx;have:=hR.cn h hh;split<;>omega
 ·rw [n7 hR.len hx];have r1:=hR.cn x hx;have r2:=hR.cn h hh;by_cases e:R.getD x 0=R.getD g 0
  ·rw [if_pos e,n7 hR.len (by omega),hR.idem h hh];split<;>rfl
  ·rw [if_neg e,n7 hR.len (by omega),hR.idem x hx,if_neg e]
theorem pI (hl:R.length=N) {g h x y:Nat} (hx:x<N) (hy:y<N) (e:R.getD x 0=R.getD y 0):(eg R g h).getD x 0=(eg R g h).getD y 0:=by
 rw [n7 hl hx,n7 hl hy,e]
theorem Dy (hl:R.length=N) {g h:Nat} (hg:g<N) (hh:h<N):(eg R g h).getD g 0=(eg R g h).getD h 0:=by
 rw [n7 hl hg,n7 hl hh,if_pos rfl];split<;>rfl
theorem Yn (p q:Nat->Bool) (N a:Nat) (ha:a<N) (h1:p a=true) (h2:q a=false) (h: ∀x,x<N->x≠a->p x=q x):(List.range N).countP p=(List.range N).countP q+1:=by
 induction N with
 |zero=>omega
 |succ N ih=>
  rw [List.range_succ,List.countP_append,List.countP_append];by_cases e:a=N
  ·subst e
   have:(List.range a).countP p=(List.range a).countP q:=List.countP_congr fun x hx=>by
    have:=List.mem_range.1 hx
    rw [h x (by omega) (by omega)]
   simp [this,h1,h2]
  ·have:=ih (by omega) (fun x hx hn=>h x (by omega) hn)
   have e2:=h N (by omega) (by omega);simp only [List.countP_cons,List.countP_nil,e2];omega
theorem LG (hR:gG R N) {g h:Nat} (hg:g<N) (hh:h<N) (az:R.getD g 0≠R.getD h 0):roots R=roots (eg R g h)+1:=by
 have r1:=hR.cn g hg;unfold roots;rw [Tf];have hl:=hR.len;refine Yn _ _ R.length (R.getD g 0).toNat (by omega) ?_ ?_ ?_
 ·rw [hR.idem g hg];simp only [beq_iff_eq];omega
 ·rw [n7 hR.len (by omega),hR.idem g hg,if_pos rfl];simp only [beq_eq_false_iff_ne,ne_eq];omega
 ·intro x hx hn;rw [n7 hR.len (by omega)];by_cases e:R.getD x 0=R.getD g 0
  ·rw [if_pos e,e];have e1:(R.getD g 0==(x:Int))=false:=by simp only [beq_eq_false_iff_ne,ne_eq];omega
   have e2:(R.getD h 0==(x:Int))=false:=by
    simp only [beq_eq_false_iff_ne,ne_eq];intro e3
    have:=hR.idem h hh
    rw [e3] at this;simp only [Int.toNat_natCast] at this;omega
   rw [e1,e2]
  ·rw [if_neg e]
end
structure Inv2 (n:Nat) (mt jn:Int->Int):Prop where
 mr: ∀x,au n x->au n (mt x)
 jr: ∀x,au n x->au n (jn x)
 mm: ∀x,au n x->mt (mt x)=x
 jj: ∀x,au n x->jn (jn x)=x
 mf: ∀x,au n x->mt x≠x
 jf: ∀x,au n x->jn x≠x
inductive aL (mt jn:Int->Int):Int->Int->Prop
 |refl (x:Int):aL mt jn x x
 |aH {x y:Int} (h:aL mt jn x y):aL mt jn x (mt y)
 |join {x y:Int} (h:aL mt jn x y):aL mt jn x (jn y)
section
variable {n:Nat} {mt jn:Int->Int}
theorem aL.trans {x y z:Int} (h1:aL mt jn x y) (h2:aL mt jn y z):aL mt jn x z:=by
 induction h2 with
 |refl=>exact h1
 |aH _ ih=>exact .aH ih
 |join _ ih=>exact .join ih
theorem aL.cn (hi:Inv2 n mt jn) {x y:Int} (h:aL mt jn x y) (hx:au n x):au n y:=by
 induction h with
 |refl=>exact hx
 |aH _ ih=>exact hi.mr _ ih
 |join _ ih=>exact hi.jr _ ih
theorem aL.symm (hi:Inv2 n mt jn) {x y:Int} (h:aL mt jn x y) (hx:au n x):aL mt jn y x:=by
 induction h with
 |refl=>exact .refl _
 | @aH y h ih=>
   have h1:=aL.aH (mt:=mt) (jn:=jn) (aL.refl (mt y));rw [hi.mm y (h.cn hi hx)] at h1;exact h1.trans ih
 | @join y h ih=>
   have h1:=aL.join (mt:=mt) (jn:=jn) (aL.refl (jn y));rw [hi.jj y (h.cn hi hx)] at h1;exact h1.trans ih
structure dX (n:Nat) (mt jn:Int->Int) (R:List Int):Prop where
 rep:gG R (4*n)
 iff: ∀x y:Nat,x<4*n->y<4*n->(R.getD x 0=R.getD y 0↔aL mt jn x y)
theorem dX.of {R:List Int} (hi:Inv2 n mt jn) (hR:gG R (4*n)) (h1: ∀x y:Nat,x<4*n->y<4*n->R.getD x 0=R.getD y 0->aL mt jn x y)
  (h2: ∀x:Nat,x<4*n->R.getD (mt x).toNat 0=R.getD x 0) (h3: ∀x:Nat,x<4*n->R.getD (jn x).toNat 0=R.getD x 0):dX n mt jn R:=by
 refine ⟨hR,fun x y hx hy=>⟨h1 x y hx hy,fun h=>?_⟩⟩;have key: ∀z,aL mt jn x z->R.getD z.toNat 0=R.getD x 0:=by
  intro z hz
  induction hz with
  |refl=>simp
  | @aH y h ih=>
    have:=h.cn hi (by unfold au;omega)
    unfold au at this;have h4:=h2 y.toNat (by omega);rw [show ((y.toNat:Nat):Int)=y by omega] at h4;rw [h4,ih]
  | @join y h ih=>
    have:=h.cn hi (by unfold au;omega)
    unfold au at this;have h4:=h3 y.toNat (by omega);rw [show ((y.toNat:Nat):Int)=y by omega] at h4;rw [h4,ih]
 have:=key y h
 simpa using this.symm
theorem te: ∀{l k:List Nat},l.Nodup->(∀x∈l,x∈k)->l.length<=k.length
 |[],_,_,_=>Nat.zero_le _
 |x::l,k,hn,hs=>by
  have hx:=hs x (by simp);obtain ⟨gw,hn'⟩:=List.nodup_cons.1 hn
  have:=te (l:=l) (k:=k.erase x) hn' (fun y hy=>(List.mem_erase_of_ne (by intro e;subst e;exact gw hy)).2 (hs y (by simp [hy])))
  have h2:=List.length_erase_of_mem hx;have h3:=List.length_pos_of_mem hx;simp only [List.length_cons];omega
theorem Hk {R L:List Int} (hR:gG R (4*n)) (hL:gG L (4*n)) (h: ∀x y:Nat,x<4*n->y<4*n->(R.getD x 0=R.getD y 0↔L.getD x 0=L.getD y 0)):roots L<=roots R:=by
 unfold roots;rw [List.countP_eq_length_filter,List.countP_eq_length_filter];have hlen:((List.range L.length).filter fun x=>L.getD x 0==(x:Int)).length=(((List.range L.length).filter fun x=>L.getD x 0==(x:Int)).map fun x=>(R.getD x 0).toNat).length:=by simp
 rw [hlen];refine te ?_ ?_
 ·rw [List.nodup_iff_pairwise_ne,List.pairwise_map];refine List.Pairwise.imp_of_mem ?_ (List.nodup_iff_pairwise_ne.1 (List.Nodup.sublist List.filter_sublist List.nodup_range));intro a b ha hb az e;simp only [List.mem_filter,List.mem_range,beq_iff_eq,hL.len] at ha hb;have r1:=hR.cn a (by omega);have r2:=hR.cn b (by omega)
  have:=(h a b (by omega) (by omega)).1 (by omega)
  omega
 ·intro x hx;simp only [List.mem_map,List.mem_filter,List.mem_range,beq_iff_eq,hL.len] at hx;obtain ⟨a,⟨ha,_⟩,rfl⟩:=hx;have r1:=hR.cn a (by omega)
  have:=hR.idem a (by omega)
  simp only [List.mem_filter,List.mem_range,beq_iff_eq,hR.len];omega
theorem zp {R L:List Int} (hR:dX n mt jn R) (hL:dX n mt jn L):roots R=roots L:=
 Nat.le_antisymm (Hk hL.rep hR.rep fun x y hx hy=>by rw [hL.iff x y hx hy,hR.iff x y hx hy]) (Hk hR.rep hL.rep fun x y hx hy=>by rw [hL.iff x y hx hy,hR.iff x y hx hy])
theorem uW (hi:Inv2 n mt jn):Perm (fun x=>jn (mt x)) (4*n) (au n):=
 ⟨fun x hx=>by unfold au at hx;omega,fun x hx=>hi.jr _ (hi.mr _ hx),fun x y hx hy e=>by
  have h1:=congrArg jn e;rw [hi.jj _ (hi.mr _ hx),hi.jj _ (hi.mr _ hy)] at h1;have h2:=congrArg mt h1;rwa [hi.mm _ hx,hi.mm _ hy] at h2⟩
theorem K8 (hi:Inv2 n mt jn) {x:Int} (hx:au n x): ∀d i j,i+d=j->it (fun x=>jn (mt x)) j x≠mt (it (fun x=>jn (mt x)) i x)/\it (fun x=>jn (mt x)) i x≠mt (it (fun x=>jn (mt x)) j x):=by
 have hR: ∀j,au n (it (fun x=>jn (mt x)) j x):=fun j=>(uW hi).it hx j;have E9: ∀i j,it (fun x=>jn (mt x)) j x=mt (it (fun x=>jn (mt x)) i x)->it (fun x=>jn (mt x)) i x=mt (it (fun x=>jn (mt x)) j x):=fun i j e=>by rw [e,hi.mm _ (hR i)]
 intro d
 induction d using Nat.strongRecOn with
 |_ d ih=>
  intro i j hd;have key:it (fun x=>jn (mt x)) j x≠mt (it (fun x=>jn (mt x)) i x):=by
   intro e;by_cases h0:d=0
   ·obtain rfl:j=i:=by omega
    exact hi.mf _ (hR j) e.symm
   ·by_cases h1:d=1
    ·obtain rfl:j=i+1:=by omega
     exact hi.jf _ (hi.mr _ (hR i)) e
    ·--shift both towards each other
     have e2:it (fun x=>jn (mt x)) (i+1) x=mt (it (fun x=>jn (mt x)) (j-1) x):=by
      show jn (mt (it (fun x=>jn (mt x)) i x))=_;rw [←e]
      conv=>lhs;rw [show j=(j-1)+1 by omega]
      exact hi.jj _ (hi.mr _ (hR (j-1)))
     exact (ih (d-2) (by omega) (i+1) (j-1) (by omega)).2 e2
  exact ⟨key,fun e=>key (E9 j i e)⟩
def crW (mt jn:Int->Int) (h:Int):Nat->List Int->Int->List Int
 |0,out,_=>out
 |f+1,out,g=>if out.getD g.toNat 0<0 then crW mt jn h f ((out.set g.toNat h).set (mt g).toNat h) (jn (mt g)) else out
def crN (mt jn:Int->Int) (N:Nat):Nat->List Int
 |0=>List.replicate N (-1)
 |h+1=>if 0<=(crN mt jn N h).getD h 0 then crN mt jn N h else crW mt jn h (N+1) (crN mt jn N h) h
def Cd (mt jn:Int->Int) (x:Int) (k:Nat) (y:Int):Prop:= ∃j,j<k/\(y=it (fun x=>jn (mt x)) j x\/y=mt (it (fun x=>jn (mt x)) j x))
theorem Zj (hi:Inv2 n mt jn) {x:Nat} (hx:x<4*n) {k:Nat} (hk:sb (fun x=>jn (mt x)) x k) {jd:List Int} (yq:jd.length=4*n)
  (hu: ∀j,j<k->jd.getD (it (fun x=>jn (mt x)) j x).toNat 0<0):
  ∀d j f (out:List Int),d=k-j->j<=k->d<f->out.length=4*n->(∀y:Nat,y<4*n->(Cd mt jn x j y->out.getD y 0=x)/\(¬Cd mt jn x j y->out.getD y 0=jd.getD y 0))->
  (crW mt jn x f out (it (fun x=>jn (mt x)) j x)).length=4*n/\ ∀y:Nat,y<4*n->(Cd mt jn x k y->(crW mt jn x f out (it (fun x=>jn (mt x)) j x)).getD y 0=x)/\(¬Cd mt jn x k y->(crW mt jn x f out (it (fun x=>jn (mt x)) j x)).getD y 0=jd.getD y 0):=by
 have gw:au n (x:Int):=by unfold au;omega
 have hR: ∀j,au n (it (fun x=>jn (mt x)) j x):=fun j=>(uW hi).it gw j;have nU:=hk.pos;intro d
 induction d with
 |zero=>
  intro j f out hd hj hf hl hy;obtain rfl:j=k:=by omega
  obtain ⟨f',rfl⟩: ∃f',f=f'+1:=⟨f-1,by omega⟩;have e:out.getD (it (fun x=>jn (mt x)) j x).toNat 0=x:=by
   rw [hk.back];exact (hy x hx).1 ⟨0,nU, .inl rfl⟩
  unfold crW;rw [if_neg (by omega)];exact ⟨hl,hy⟩
 |succ d ih=>
  intro j f out hd hj hf hl hy;obtain ⟨f',rfl⟩: ∃f',f=f'+1:=⟨f-1,by omega⟩;have r1:=hR j;have r2:=hi.mr _ (hR j);unfold au at r1 r2;have PI: ¬Cd mt jn x j (it (fun x=>jn (mt x)) j x):=by
   rintro ⟨i,eK,e|e⟩
   ·have:=(uW hi).cancel gw i (j-i) (by rw [show i+(j-i)=j by omega];exact e)
    exact hk.first (j-i) (by omega) (by omega) this
   ·exact (K8 hi gw (j-i) i j (by omega)).1 e
  have e:out.getD (it (fun x=>jn (mt x)) j x).toNat 0<0:=by
   have h1:=(hy (it (fun x=>jn (mt x)) j x).toNat (by omega)).2;rw [show (((it (fun x=>jn (mt x)) j x).toNat:Nat):Int)=it (fun x=>jn (mt x)) j x by omega] at h1;rw [h1 PI];exact hu j (by omega)
  unfold crW;rw [if_pos e];refine ih (j+1) f' _ (by omega) (by omega) (by omega) (by simp [hl]) fun y WO=>?_;have hset:((out.set (it (fun x=>jn (mt x)) j x).toNat x).set (mt (it (fun x=>jn (mt x)) j x)).toNat x).getD y 0=if (y:Int)=it (fun x=>jn (mt x)) j x\/(y:Int)=mt (it (fun x=>jn (mt x)) j x) then (x:Int) else out.getD y 0:=by
   by_cases e1:(mt (it (fun x=>jn (mt x)) j x)).toNat=y
   ·rw [e1,nL (by simp [hl];omega),if_pos (.inr (by omega))]
   ·rw [ma e1];by_cases e2:(it (fun x=>jn (mt x)) j x).toNat=y
    ·rw [e2,nL (by omega),if_pos (.inl (by omega))]
    ·rw [ma e2,if_neg (by omega)]
  rw [hset];constructor
  ·rintro ⟨i,eK,jh⟩;rcases Nat.lt_or_ge i j with q|q
   ·split
    ·rfl
    ·exact (hy y WO).1 ⟨i,q,jh⟩
   ·obtain rfl:i=j:=by omega
    rw [if_pos jh]
  ·intro cD;rw [if_neg fun jh=>cD ⟨j,by omega,jh⟩];exact (hy y WO).2 fun ⟨i,eK,jh⟩=>cD ⟨i,by omega,jh⟩
theorem C4 (hi:Inv2 n mt jn) {x:Int} (hx:au n x) {k:Nat} (hk:sb (fun x=>jn (mt x)) x k) {y:Int}:Cd mt jn x k y↔aL mt jn x y:=by
 have hR: ∀j,au n (it (fun x=>jn (mt x)) j x):=fun j=>(uW hi).it hx j;have nU:=hk.pos;constructor
 ·rintro ⟨j,hj,h⟩;have hc: ∀j,aL mt jn x (it (fun x=>jn (mt x)) j x):=by
   intro j
   induction j with
   |zero=>exact .refl _
   |succ j ih=>exact .join (.aH ih)
  rcases h with rfl|rfl
  ·exact hc j
  ·exact .aH (hc j)
 ·intro h
  induction h with
  |refl=>exact ⟨0,nU, .inl rfl⟩
  |aH _ ih=>
   obtain ⟨j,hj,h⟩:=ih;rcases h with rfl|rfl
   ·exact ⟨j,hj, .inr rfl⟩
   ·exact ⟨j,hj, .inl (hi.mm _ (hR j))⟩
  |join _ ih=>
   obtain ⟨j,hj,h⟩:=ih;rcases h with rfl|rfl
   ·--jn of the j-th is the aH of the one before
    by_cases h0:j=0
    ·subst h0;refine ⟨k-1,by omega, .inr ?_⟩
     have:it (fun x=>jn (mt x)) ((k-1)+1) x=x:=by rw [show (k-1)+1=k by omega];exact hk.back
     have h2:jn (mt (it (fun x=>jn (mt x)) (k-1) x))=x:=this;show jn x=_;rw [←h2,hi.jj _ (hi.mr _ (hR _)),h2]
    ·refine ⟨j-1,by omega, .inr ?_⟩
     conv=>lhs;rw [show j=(j-1)+1 by omega]
     exact hi.jj _ (hi.mr _ (hR (j-1)))
   ·by_cases h1:j+1<k
    ·exact ⟨j+1,h1, .inl rfl⟩
    ·refine ⟨0,nU, .inl ?_⟩
     have:it (fun x=>jn (mt x)) (j+1) x=x:=by rw [show j+1=k by omega];exact hk.back
     exact this
structure CrI (n:Nat) (mt jn:Int->Int) (h:Nat) (out:List Int):Prop where
 len:out.length=4*n
 yes: ∀y:Nat,y<4*n->0<=out.getD y 0->out.getD y 0<h/\aL mt jn (out.getD y 0) y/\out.getD (out.getD y 0).toNat 0=out.getD y 0
 clo: ∀a b:Nat,a<4*n->b<4*n->0<=out.getD a 0->aL mt jn a b->out.getD b 0=out.getD a 0
 low: ∀y:Nat,y<h->0<=out.getD y 0
theorem yI (hi:Inv2 n mt jn): ∀h,h<=4*n->CrI n mt jn h (crN mt jn (4*n) h)
 |0,_=>⟨by simp [crN],fun y hy h=>by simp [crN,hy] at h,fun a b ha _ h=>by simp [crN,ha] at h,fun y hy=>by omega⟩
 |h+1,hh=>by
  have ih:=yI hi h (by omega);simp only [crN];by_cases hs:0<=(crN mt jn (4*n) h).getD h 0
  ·rw [if_pos hs];refine ⟨ih.len,fun y hy h0=>?_,ih.clo,fun y hy=>?_⟩
   ·obtain ⟨h1,h2,h3⟩:=ih.yes y hy h0;exact ⟨by omega,h2,h3⟩
   ·rcases Nat.lt_or_ge y h with q|q
    ·exact ih.low y q
    ·rwa [show y=h by omega]
  ·rw [if_neg hs];have hR:au n (h:Int):=by unfold au;omega
   obtain ⟨k,fW,hk⟩:=(uW hi).Cc hR;generalize crN mt jn (4*n) h=jd at*;have E8: ∀y:Nat,y<4*n->aL mt jn h y->jd.getD y 0<0:=by
    intro y hy hc;rcases Int.lt_or_le (jd.getD y 0) 0 with q|q
    ·exact q
    ·have:=ih.clo y h hy (by omega) q (hc.symm hi hR);omega
   have eZ:=Zj hi (x:=h) (by omega) hk ih.len (fun j hj=>by
    have hr:=(uW hi).it hR j;have hc:=(C4 hi hR hk).1 ⟨j,hj, .inl rfl⟩;unfold au at hr;refine E8 _ (by omega) ?_;rw [show (((it (fun x=>jn (mt x)) j h).toNat:Nat):Int)=it (fun x=>jn (mt x)) j h by omega];exact hc) k 0 (4*n+1) jd (by omega) (by omega) (by omega) ih.len (fun y hy=>⟨fun ⟨j,hj,_⟩=>by omega,fun _=>rfl⟩)
   have h0:it (fun x=>jn (mt x)) 0 (h:Int)=h:=rfl;rw [h0] at eZ;obtain ⟨hlen,eZ⟩:=eZ;generalize crW mt jn h (4*n+1) jd h=out at*;have oL: ∀y:Nat,y<4*n->aL mt jn h y->out.getD y 0=h:=fun y hy hc=>(eZ y hy).1 ((C4 hi hR hk).2 hc);have lL: ∀y:Nat,y<4*n-> ¬aL mt jn h y->out.getD y 0=jd.getD y 0:=fun y hy hc=>(eZ y hy).2 fun ho=>hc ((C4 hi hR hk).1 ho)
   refine ⟨hlen,fun y hy h1=>?_,fun a b ha hb h1 fC=>?_,fun y hy=>?_⟩
   ·by_cases hc:aL mt jn h y
    ·rw [oL y hy hc];refine ⟨by omega,hc,?_⟩;simp only [Int.toNat_natCast];exact oL h (by omega) (.refl _)
    ·rw [lL y hy hc] at h1⊢;obtain ⟨g1,g2,g3⟩:=ih.yes y hy h1;refine ⟨by omega,g2,?_⟩;have hz: ¬aL mt jn h ((jd.getD y 0).toNat:Nat):=by
      intro wT;rw [show (((jd.getD y 0).toNat:Nat):Int)=jd.getD y 0 by omega] at wT;exact hc (wT.trans g2)
     rw [lL _ (by omega) hz];exact g3
   ·by_cases hc:aL mt jn h a
    ·rw [oL a ha hc,oL b hb (hc.trans fC)]
    ·have kM: ¬aL mt jn h b:=fun kM=>hc (kM.trans (fC.symm hi (by unfold au;omega)));rw [lL a ha hc] at h1⊢;rw [lL b hb kM];exact ih.clo a b ha hb h1 fC
   ·by_cases hc:aL mt jn h y
    ·rw [oL y (by omega) hc];omega
    ·rw [lL y (by omega) hc];rcases Nat.lt_or_ge y h with q|q
     ·exact ih.low y q
     ·exact absurd (by rw [show y=h by omega];exact .refl _) hc
theorem yT (hi:Inv2 n mt jn):dX n mt jn (crN mt jn (4*n) (4*n)):=by
 have h:=yI hi (4*n) (Nat.le_refl _);refine ⟨⟨h.len,fun x hx=>?_,fun x hx=>(h.yes x hx (h.low x hx)).2.2⟩,fun x y hx hy=>⟨fun e=>?_,fun hc=>(h.clo x y hx hy (h.low x hx) hc).symm⟩⟩
 ·have:=(h.yes x hx (h.low x hx)).1;exact ⟨h.low x hx,by omega⟩
 ·have h1:=(h.yes x hx (h.low x hx)).2.1;have h2:=(h.yes y hy (h.low y hy)).2.1;rw [←e] at h2;have h3:=(h.yes x hx (h.low x hx)).1;have h4:=h.low x hx;exact (h1.symm hi (by unfold au;omega)).trans h2
end
def ou (m:List Int):Nat->List Int
 |0=>(List.range m.length).map (Nat.cast:Nat->Int)
 |k+1=>if (k:Int)<m.getD k 0 then eg (ou m k) k (m.getD k 0).toNat else ou m k
def gj (m:List Int) (ch:Nat->Bool):Nat->List Int
 |0=>ou m m.length
 |k+1=>if ch k then eg (eg (gj m ch k) (4*k+1) (4*k+2)) (4*k+3) (4*k) else eg (eg (gj m ch k) (4*k) (4*k+1)) (4*k+2) (4*k+3)
structure UF (l R:List Int) (N:Nat):Prop where
 rep:gG R N
 len:l.length=N
 cn: ∀x,x<N->0<=l.getD x 0/\l.getD x 0<N
 same: ∀x,x<N->R.getD (l.getD x 0).toNat 0=R.getD x 0
 root: ∀x:Nat,x<N->(l.getD x 0=x↔R.getD x 0=x)
 rank: ∃rk:Nat->Nat,∀x:Nat,x<N->l.getD x 0≠x->rk (l.getD x 0).toNat<rk x
section
variable {l R:List Int} {N:Nat}
theorem UF.init (N:Nat):UF ((List.range N).map (Nat.cast:Nat->Int)) ((List.range N).map (Nat.cast:Nat->Int)) N:=by
 have hg: ∀x,x<N->((List.range N).map (Nat.cast:Nat->Int)).getD x 0=x:=fun x hx=>by simp [hx]
 exact ⟨⟨by simp,fun x hx=>by rw [hg x hx];omega,fun x hx=>by rw [hg x hx];simpa using hg x hx⟩,by simp,fun x hx=>by rw [hg x hx];omega,fun x hx=>by rw [hg x hx];simpa using hg x hx,
  fun x hx=>by rw [hg x hx],fun x=>x,fun x hx hn=>absurd (hg x hx) hn⟩
end
theorem OO (k:Nat):bd true ((4*k:Nat):Int)=((4*k+3:Nat):Int)/\bd true ((4*k+1:Nat):Int)=((4*k+2:Nat):Int)/\bd true ((4*k+2:Nat):Int)=((4*k+1:Nat):Int)/\bd true ((4*k+3:Nat):Int)=((4*k:Nat):Int)/\
  bd false ((4*k:Nat):Int)=((4*k+1:Nat):Int)/\bd false ((4*k+1:Nat):Int)=((4*k:Nat):Int)/\bd false ((4*k+2:Nat):Int)=((4*k+3:Nat):Int)/\bd false ((4*k+3:Nat):Int)=((4*k+2:Nat):Int):=by
 have o: ∀x:Int,x % 2=1->bd true x=x-x % 4+(x % 4+5)% 4/\bd false x=x-x % 4+(x % 4+3)% 4:=fun x h=>by
  unfold bd;rw [qo,pD,decide_eq_true h];exact ⟨if_pos rfl,if_neg (by simp)⟩
 have e: ∀x:Int,¬x % 2=1->bd true x=x-x % 4+(x % 4+3)% 4/\bd false x=x-x % 4+(x % 4+5)% 4:=fun x h=>by
  unfold bd;rw [qo,pD,decide_eq_false h];exact ⟨if_neg (by simp),if_pos rfl⟩
 rw [(e _ (by omega)).1,(o _ (by omega)).1,(e _ (by omega)).1,(o _ (by omega)).1,(e _ (by omega)).2,(o _ (by omega)).2,(e _ (by omega)).2,(o _ (by omega)).2];omega
theorem l6 {m:List Int} {n:Nat} (hp:kh m n) (rO: ∀x:Nat,x<4*n->m.getD (m.getD x 0).toNat 0=x) (tM: ∀x:Nat,x<4*n->m.getD x 0≠x) (ch:Nat->Bool):Inv2 n (fun x=>m.getD x.toNat 0) (fun x=>bd (ch (x/4).toNat) x):=by
 have iw:=hp.1;refine ⟨fun x hx=>?_,fun x hx=>?_,fun x hx=>?_,fun x hx=>?_,fun x hx=>?_,fun x _=>Gm _ x⟩
 ·unfold au at*
  have:=hp.2 x.toNat (by omega)
  omega
 ·unfold au at*;have h1:=xl (ch (x/4).toNat) x;omega
 ·unfold au at hx
  have:=rO x.toNat (by omega)
  show m.getD (m.getD x.toNat 0).toNat 0=x;rw [this];omega
 ·show bd (ch (bd (ch (x/4).toNat) x/4).toNat) (bd (ch (x/4).toNat) x)=x;rw [xl,GU]
 ·unfold au at hx
  have:=tM x.toNat (by omega)
  show m.getD x.toNat 0≠x;omega
section
variable {n:Nat} {mt jn:Int->Int} {R:List Int}
theorem HA (hi:Inv2 n mt jn) (hR:gG R (4*n)) (h1: ∀x y:Nat,x<4*n->y<4*n->R.getD x 0=R.getD y 0->aL mt jn x y) {g h:Nat} (hg:g<4*n) (hh:h<4*n) (Xx:aL mt jn g h):
  ∀x y:Nat,x<4*n->y<4*n->(eg R g h).getD x 0=(eg R g h).getD y 0->aL mt jn x y:=by
 intro x y hx hy e;have ir: ∀z:Nat,z<4*n->au n (z:Int):=fun z hz=>by unfold au;omega
 rw [n7 hR.len hx,n7 hR.len hy] at e;by_cases c1:R.getD x 0=R.getD g 0
 ·rw [if_pos c1] at e;by_cases c2:R.getD y 0=R.getD g 0
  ·exact h1 x y hx hy (c1.trans c2.symm)
  ·rw [if_neg c2] at e;exact ((h1 x g hx hg c1).trans Xx).trans (h1 h y hh hy e)
 ·rw [if_neg c1] at e;by_cases c2:R.getD y 0=R.getD g 0
  ·rw [if_pos c2] at e;exact ((h1 x h hx hh e).trans (Xx.symm hi (ir g hg))).trans (h1 g y hg hy c2.symm)
  ·rw [if_neg c2] at e;exact h1 x y hx hy e
end
section
variable {m:List Int} {n:Nat} {ch:Nat->Bool}
theorem St (hp:kh m n) (hi:Inv2 n (fun x=>m.getD x.toNat 0) (fun x=>bd (ch (x/4).toNat) x)): ∀k,k<=4*n->gG (ou m k) (4*n)/\
  (∀x y:Nat,x<4*n->y<4*n->(ou m k).getD x 0=(ou m k).getD y 0->aL (fun x=>m.getD x.toNat 0) (fun x=>bd (ch (x/4).toNat) x) x y)/\
  (∀x:Nat,x<k->(x:Int)<m.getD x 0->(ou m k).getD (m.getD x 0).toNat 0=(ou m k).getD x 0)
 |0,_=>by
  have iw:=hp.1;have hu:=(UF.init (4*n)).rep;refine ⟨by simp only [ou,iw];exact hu,fun x y hx hy e=>?_,fun x hx=>by omega⟩
  have:(x:Int)=y:=by simpa [ou,iw,hx,hy] using e
  have:x=y:=by omega
  subst this;exact .refl _
 |k+1,hk=>by
  obtain ⟨i1,i2,i3⟩:=St hp hi k (by omega);have iw:=hp.1;have oK:=hp.2 k (by omega);by_cases aG:(k:Int)<m.getD k 0
  ·have e:ou m (k+1)=eg (ou m k) k (m.getD k 0).toNat:=by simp only [ou,if_pos aG]
   rw [e];have hy:(m.getD k 0).toNat<4*n:=by omega
   have hc:aL (fun x=>m.getD x.toNat 0) (fun x=>bd (ch (x/4).toNat) x) (k:Int) ((m.getD k 0).toNat:Int):=by
    have:=aL.aH (mt:=fun x=>m.getD x.toNat 0) (jn:=fun x=>bd (ch (x/4).toNat) x) (aL.refl (k:Int))
    simp only [Int.toNat_natCast] at this;rw [show ((m.getD k 0).toNat:Int)=m.getD k 0 by omega];exact this
   refine ⟨BU i1 (by omega) hy,HA hi i1 i2 (by omega) hy hc,fun x hx Iw=>?_⟩;by_cases ex:x=k
   ·subst ex;exact (Dy i1.len (by omega) hy).symm
   ·have hmx:=hp.2 x (by omega);exact pI i1.len (by omega) (by omega) (i3 x (by omega) Iw)
  ·have e:ou m (k+1)=ou m k:=by simp only [ou,if_neg aG]
   rw [e];refine ⟨i1,i2,fun x hx Iw=>?_⟩;by_cases ex:x=k
   ·subst ex;exact absurd Iw aG
   ·exact i3 x (by omega) Iw
theorem SQ (hp:kh m n) (rO: ∀x:Nat,x<4*n->m.getD (m.getD x 0).toNat 0=x) (tM: ∀x:Nat,x<4*n->m.getD x 0≠x): ∀k,k<=n->gG (gj m ch k) (4*n)/\
  (∀x y:Nat,x<4*n->y<4*n->(gj m ch k).getD x 0=(gj m ch k).getD y 0->aL (fun x=>m.getD x.toNat 0) (fun x=>bd (ch (x/4).toNat) x) x y)/\
  (∀x:Nat,x<4*n->(gj m ch k).getD (m.getD x 0).toNat 0=(gj m ch k).getD x 0)/\
  (∀x:Nat,x<4*k->(gj m ch k).getD (bd (ch (x/4)) x).toNat 0=(gj m ch k).getD x 0)
 |0,_=>by
  have hi:=l6 hp rO tM ch;have iw:=hp.1;obtain ⟨i1,i2,i3⟩:=St (ch:=ch) hp hi (4*n) (Nat.le_refl _);simp only [gj,iw];refine ⟨i1,i2,fun x hx=>?_,fun x hx=>by omega⟩;have oK:=hp.2 x (by omega);have az:=tM x hx;by_cases aG:(x:Int)<m.getD x 0
  ·exact i3 x hx aG
  ·have h2:=rO x hx
   have:=i3 (m.getD x 0).toNat (by omega) (by rw [h2];omega)
   rw [h2,Int.toNat_natCast] at this;exact this.symm
 |k+1,hk=>by
  have hi:=l6 hp rO tM ch;have iw:=hp.1;obtain ⟨i1,i2,i3,i4⟩:=SQ hp rO tM k (by omega);have tP: ∀x:Nat,aL (fun x=>m.getD x.toNat 0) (fun x=>bd (ch (x/4).toNat) x) (x:Int) (bd (ch (x/4)) x):=fun x=>by
   have:=aL.join (mt:=fun x=>m.getD x.toNat 0) (jn:=fun x=>bd (ch (x/4).toNat) x) (aL.refl (x:Int))
   rw [show ((x:Int)/4).toNat=x/4 by omega] at this;exact this
  have gen: ∀a b c d:Nat,a<4*n->b<4*n->c<4*n->d<4*n->bd (ch (a/4)) a=b->bd (ch (c/4)) c=d->(∀x:Nat,x/4=k->(x=a\/x=b\/x=c\/x=d))->bd (ch (b/4)) b=a->bd (ch (d/4)) d=c->
   gj m ch (k+1)=eg (eg (gj m ch k) a b) c d->gG (gj m ch (k+1)) (4*n)/\
   (∀x y:Nat,x<4*n->y<4*n->(gj m ch (k+1)).getD x 0=(gj m ch (k+1)).getD y 0->aL (fun x=>m.getD x.toNat 0) (fun x=>bd (ch (x/4).toNat) x) x y)/\
   (∀x:Nat,x<4*n->(gj m ch (k+1)).getD (m.getD x 0).toNat 0=(gj m ch (k+1)).getD x 0)/\
   (∀x:Nat,x<4*(k+1)->(gj m ch (k+1)).getD (bd (ch (x/4)) x).toNat 0=(gj m ch (k+1)).getD x 0):=by
   intro a b c d ha hb hc hd e1 e2 jH e3 e4 eM;rw [eM];have r1:=BU i1 ha hb;have c1:=HA hi i1 i2 ha hb (by rw [←e1];exact tP a);refine ⟨BU r1 hc hd,HA hi r1 c1 hc hd (by rw [←e2];exact tP c),fun x hx=>?_,fun x hx=>?_⟩
   ·have oK:=hp.2 x (by omega);exact pI r1.len (by omega) hx (pI i1.len (by omega) hx (i3 x hx))
   ·by_cases hxk:x/4=k
    ·have p1:=pI r1.len (g:=c) (h:=d) ha hb (Dy i1.len ha hb);have p2:=Dy (N:=4*n) (R:=eg (gj m ch k) a b) r1.len hc hd;rcases jH x hxk with rfl|rfl|rfl|rfl
     ·rw [e1,Int.toNat_natCast];exact p1.symm
     ·rw [e3,Int.toNat_natCast];exact p1
     ·rw [e2,Int.toNat_natCast];exact p2.symm
     ·rw [e4,Int.toNat_natCast];exact p2
    ·have hj:=xl (ch (x/4)) x;exact pI r1.len (by omega) (by omega) (pI i1.len (by omega) (by omega) (i4 x (by omega)))
  have d0:(4*k)/4=k:=by omega
  have d1:(4*k+1)/4=k:=by omega
  have d2:(4*k+2)/4=k:=by omega
  have d3:(4*k+3)/4=k:=by omega
  obtain ⟨t0,t1,t2,t3,f0,f1,f2,f3⟩:=OO k;cases nW:ch k with
  |true=>
   exact gen (4*k+1) (4*k+2) (4*k+3) (4*k) (by omega) (by omega) (by omega) (by omega) (by rw [d1,nW];exact t1) (by rw [d3,nW];exact t3) (fun x hx=>by omega) (by rw [d2,nW];exact t2) (by rw [d0,nW];exact t0) (by simp only [gj,nW,if_true])
  |false=>
   exact gen (4*k) (4*k+1) (4*k+2) (4*k+3) (by omega) (by omega) (by omega) (by omega) (by rw [d0,nW];exact f0) (by rw [d2,nW];exact f2) (fun x hx=>by omega) (by rw [d1,nW];exact f1) (by rw [d3,nW];exact f3) (by simp only [gj,nW];rfl)
theorem s7 (hp:kh m n) (rO: ∀x:Nat,x<4*n->m.getD (m.getD x 0).toNat 0=x) (tM: ∀x:Nat,x<4*n->m.getD x 0≠x):dX n (fun x=>m.getD x.toNat 0) (fun x=>bd (ch (x/4).toNat) x) (gj m ch n):=by
 obtain ⟨i1,i2,i3,i4⟩:=SQ (ch:=ch) hp rO tM n (Nat.le_refl _);refine dX.of (l6 hp rO tM ch) i1 i2 (fun x hx=>by simp only [Int.toNat_natCast];exact i3 x hx) (fun x hx=>?_)
 have:=i4 x hx
 rw [show ((x:Int)/4).toNat=x/4 by omega];exact this
end
def ot (n:Nat) (mt b:Int->Int):Nat:=roots (crN mt b (4*n) (4*n))
def fu (mt b:Int->Int) (y:Int) (x:Int):Int:=
 if x=y then mt y else if x=mt y then y else if x=b y then b (mt y) else if x=b (mt y) then b y else b x
section
variable {n:Nat} {mt b:Int->Int} (hi:Inv2 n mt b) {y:Int} (hy:au n y) (az:b y≠mt y)
include hi hy az
theorem Dr:au n (mt y)/\au n (b y)/\au n (b (mt y))/\mt y≠y/\b y≠y/\b (mt y)≠mt y/\b (mt y)≠y/\b (mt y)≠b y/\b y≠mt y:=by
 have h1:=hi.mr y hy;refine ⟨h1,hi.jr y hy,hi.jr _ h1,hi.mf y hy,hi.jf y hy,hi.jf _ h1,fun e=>?_,fun e=>?_,az⟩
 ·have:=congrArg b e
  rw [hi.jj _ h1] at this;exact az this.symm
 ·have:=congrArg b e
  rw [hi.jj _ h1,hi.jj _ hy] at this;exact hi.mf y hy this
theorem Ke:Inv2 n mt (fu mt b y):=by
 obtain ⟨z1,p1,q1,n1,n2,n3,n4,n5,n6⟩:=Dr hi hy az;refine ⟨hi.mr,fun x hx=>?_,hi.mm,fun x hx=>?_,hi.mf,fun x hx=>?_⟩
 ·unfold fu
  split
  ·exact z1
  ·split
   ·exact hy
   ·split
    ·exact q1
    ·split
     ·exact p1
     ·exact hi.jr x hx
 ·by_cases e1:x=y
  ·rw [e1];unfold fu;rw [if_pos rfl,if_neg n1,if_pos rfl]
  ·by_cases e2:x=mt y
   ·rw [e2];unfold fu;rw [if_neg n1,if_pos rfl,if_pos rfl]
   ·by_cases e3:x=b y
    ·have:fu mt b y x=b (mt y):=by unfold fu;rw [if_neg e1,if_neg e2,if_pos e3]
     rw [this];unfold fu;rw [if_neg n4,if_neg n3,if_neg n5,if_pos rfl,e3]
    ·by_cases e4:x=b (mt y)
     ·have:fu mt b y x=b y:=by unfold fu;rw [if_neg e1,if_neg e2,if_neg e3,if_pos e4]
      rw [this];unfold fu;rw [if_neg n2,if_neg n6,if_pos rfl,e4]
     ·have:fu mt b y x=b x:=by unfold fu;rw [if_neg e1,if_neg e2,if_neg e3,if_neg e4]
      rw [this];have k1:b x≠y:=fun e=>e3 (by rw [←e,hi.jj x hx]);have k2:b x≠mt y:=fun e=>e4 (by rw [←e,hi.jj x hx]);have k3:b x≠b y:=fun e=>e1 (by have:=congrArg b e;rwa [hi.jj x hx,hi.jj y hy] at this);have k4:b x≠b (mt y):=fun e=>e2 (by have:=congrArg b e;rwa [hi.jj x hx,hi.jj _ z1] at this);unfold fu;rw [if_neg k1,if_neg k2,if_neg k3,if_neg k4,hi.jj x hx]
 ·unfold fu
  split
  ·rename_i e;rw [e];exact n1
  ·split
   ·rename_i e;rw [e];exact n1.symm
   ·split
    ·rename_i e;rw [e];exact n5
    ·split
     ·rename_i e;rw [e];exact n5.symm
     ·exact hi.jf x hx
theorem NN {u v:Int} (h:aL mt (fu mt b y) u v) (hu:au n u):aL mt b u v:=by
 obtain ⟨z1,p1,q1,n1,n2,n3,n4,n5,n6⟩:=Dr hi hy az;have tS:=Ke hi hy az;have En:aL mt b y (mt y):= .aH (.refl y);have mn:aL mt b (b y) (b (mt y)):=by
  have h1:aL mt b (b y) (b (b y)):= .join (.refl _);rw [hi.jj y hy] at h1;exact .join (.aH h1)
 induction h with
 |refl=>exact .refl _
 |aH _ ih=>exact .aH ih
 | @join w hw ih=>
   have Ig:=hw.cn tS hu;refine ih.trans ?_;unfold fu
   split
   ·rename_i e;rw [e];exact En
   ·split
    ·rename_i e;rw [e];exact En.symm hi hy
    ·split
     ·rename_i e;rw [e];exact mn
     ·split
      ·rename_i e;rw [e];exact mn.symm hi p1
      ·exact .join (.refl _)
theorem NM {v:Int} (h:aL mt (fu mt b y) y v):v=y\/v=mt y:=by
 obtain ⟨z1,p1,q1,n1,n2,n3,n4,n5,n6⟩:=Dr hi hy az
 induction h with
 |refl=>exact .inl rfl
 |aH _ ih=>
  rcases ih with e|e
  ·exact .inr (by rw [e])
  ·exact .inl (by rw [e,hi.mm y hy])
 |join _ ih=>
  rcases ih with e|e
  ·rw [e];unfold fu;rw [if_pos rfl];exact .inr rfl
  ·rw [e];unfold fu;rw [if_neg n1,if_pos rfl];exact .inl rfl
theorem NL:ot n mt (fu mt b y)=ot n mt b+1:=by
 obtain ⟨z1,p1,q1,n1,n2,n3,n4,n5,n6⟩:=Dr hi hy az;have tS:=Ke hi hy az;have hR:=yT tS;have hB:=yT hi;unfold ot;generalize crN mt (fu mt b y) (4*n) (4*n)=R at*;have nat: ∀x,au n x->x.toNat<4*n/\(x.toNat:Int)=x:=fun x hx=>by unfold au at hx;omega
 obtain ⟨yl,ye⟩:=nat y hy;obtain ⟨pl,pe⟩:=nat _ p1;obtain ⟨zl,ze⟩:=nat _ z1;obtain ⟨ql,qe⟩:=nat _ q1;have hyp:aL mt b y (b y):= .join (.refl y);have Co:R.getD y.toNat 0≠R.getD (b y).toNat 0:=fun e=>by
  have:=(hR.iff _ _ yl pl).1 e
  rw [ye,pe] at this;rcases NM hi hy az this with e1|e1
  ·exact n2 e1
  ·exact n6 e1
 have bH: ∀u v:Nat,u<4*n->v<4*n->aL mt (fu mt b y) u v->R.getD u 0=R.getD v 0:=fun u v hu hv h=>(hR.iff u v hu hv).2 h;have hJ:dX n mt b (eg R y.toNat (b y).toNat):=by
  refine dX.of hi (BU hR.rep yl pl) ?_ (fun x hx=>?_) (fun x hx=>?_)
  ·refine HA hi hR.rep (fun u v hu hv e=>NN hi hy az ((hR.iff u v hu hv).1 e) (by unfold au;omega)) yl pl ?_;rw [ye,pe];exact hyp
  ·have qI:au n (x:Int):=by unfold au;omega
   obtain ⟨ml,me⟩:=nat _ (hi.mr _ qI);refine pI hR.rep.len ml hx (bH _ _ ml hx ?_);rw [me];have h1:aL mt (fu mt b y) (mt x) (mt (mt x)):= .aH (.refl _);rwa [hi.mm _ qI] at h1
  ·have qI:au n (x:Int):=by unfold au;omega
   obtain ⟨bl,be⟩:=nat _ (hi.jr _ qI);have step: ∀w:Int,au n w-> ∀wl:w.toNat<4*n,R.getD (fu mt b y w).toNat 0=R.getD w.toNat 0:=fun w hw wl=>by
    obtain ⟨cl,ce⟩:=nat _ (tS.jr w hw);obtain ⟨_,we⟩:=nat w hw;refine bH _ _ cl wl ?_;rw [ce,we];have h1:aL mt (fu mt b y) (fu mt b y w) (fu mt b y (fu mt b y w)):= .join (.refl _);rwa [tS.jj w hw] at h1
   have En:R.getD (mt y).toNat 0=R.getD y.toNat 0:=by
    have:=step y hy yl
    unfold fu at this;rwa [if_pos rfl] at this
   have mn:R.getD (b (mt y)).toNat 0=R.getD (b y).toNat 0:=by
    have:=step (b y) p1 pl
    unfold fu at this;rwa [if_neg n2,if_neg n6,if_pos rfl] at this
   have hj:=Dy hR.rep.len yl pl;by_cases e1:(x:Int)=y
   ·have ex:x=y.toNat:=by omega
    rw [e1,ex];exact hj.symm
   ·by_cases e2:(x:Int)=mt y
    ·have ex:x=(mt y).toNat:=by omega
     rw [e2,ex];exact (pI hR.rep.len ql pl mn).trans (hj.symm.trans (pI hR.rep.len yl zl En.symm))
    ·by_cases e3:(x:Int)=b y
     ·have ex:x=(b y).toNat:=by omega
      rw [e3,hi.jj y hy,ex];exact hj
     ·by_cases e4:(x:Int)=b (mt y)
      ·have ex:x=(b (mt y)).toNat:=by omega
       rw [e4,hi.jj _ z1,ex];exact ((pI hR.rep.len zl yl En).trans hj).trans (pI hR.rep.len pl ql mn.symm)
      ·have h1:=step x qI (by omega);have h2:fu mt b y x=b x:=by unfold fu;rw [if_neg e1,if_neg e2,if_neg e3,if_neg e4]
       rw [h2] at h1
       have:=pI (g:=y.toNat) (h:=(b y).toNat) hR.rep.len bl (show (x:Int).toNat<4*n by omega) h1
       simpa using this
 rw [LG hR.rep yl pl Co,zp hJ hB]
end
structure Nod (W:Nat) (arc:Nat->Nat) (glue:Nat->Int):Prop where
 ar: ∀x,x<W->arc x<W
 aa: ∀x,x<W->arc (arc x)=x
 af: ∀x,x<W->arc x≠x
 gr: ∀x,x<W->0<=glue x->glue x<W
 gg: ∀x,x<W->0<=glue x->glue (glue x).toNat=x
 gf: ∀x,x<W->glue x≠x
def pthN (arc:Nat->Nat) (glue:Nat->Int):Nat->List Bool->Nat->List Bool×Nat
 |0,sn,y=>(sn,y)
 |f+1,sn,y=>if 0<=glue y then pthN arc glue f ((sn.set y true).set (glue y).toNat true) (arc (glue y).toNat) else (sn,y)
def nj (arc:Nat->Nat) (glue:Nat->Int):Nat->List Bool->Nat->List Bool
 |0,sn,_=>sn
 |f+1,sn,z=>if sn.getD z false then sn else nj arc glue f ((sn.set z true).set (glue z).toNat true) (arc (glue z).toNat)
def endN (W:Nat) (arc:Nat->Nat) (glue:Nat->Int):Nat->List Bool
 |0=>List.replicate W false
 |k+1=>if 0<=glue k then endN W arc glue k else (pthN arc glue (W+1) (endN W arc glue k) (arc k)).1
def bU (W:Nat) (arc:Nat->Nat) (glue:Nat->Int) (qz:List Bool):Nat->List Bool×Nat
 |0=>(qz,0)
 |k+1=>let r:=bU W arc glue qz k
  if glue k<0\/r.1.getD k false=true then r else (nj arc glue (W+1) r.1 k,r.2+1)
inductive lr (arc:Nat->Nat) (glue:Nat->Int):Nat->List Nat->Nat->Prop
 |nil {u:Nat} (h:glue (arc u)<0):lr arc glue u [] (arc u)
 |cons {u e:Nat} {ys:List Nat} (h:0<=glue (arc u)) (k:lr arc glue (glue (arc u)).toNat ys e):lr arc glue u (arc u::ys) e
def cV (glue:Nat->Int) (sn:List Bool) (y:Nat):List Bool:=(sn.set y true).set (glue y).toNat true
theorem BI {arc:Nat->Nat} {glue:Nat->Int} {u e:Nat} {ys:List Nat} (h:lr arc glue u ys e): ∀(f:Nat) (sn:List Bool),ys.length<f->pthN arc glue f sn (arc u)=(ys.foldl (cV glue) sn,e):=by
 induction h with
 |nil h=>
  intro f sn hf;obtain ⟨f,rfl⟩: ∃f',f=f'+1:=⟨f-1,by omega⟩;simp only [pthN,List.foldl_nil];rw [if_neg (by omega)]
 |cons h k ih=>
  intro f sn hf;simp only [List.length_cons] at hf;obtain ⟨f,rfl⟩: ∃f',f=f'+1:=⟨f-1,by omega⟩;simp only [pthN,List.foldl_cons];rw [if_pos h];exact ih f _ (by omega)
theorem SP {sn:List Bool} {y:Nat} (h:sn.getD y false=true):sn.set y true=sn:=by
 apply List.ext_getElem?;intro i;rw [List.getElem?_set];by_cases e:y=i
 ·subst e;rw [if_pos rfl];rw [List.getD_eq_getElem?_getD] at h;cases hq:sn[y]? with
  |none=>rw [hq] at h;simp at h
  |some v=>rw [hq] at h;simp at h;subst h;rw [if_pos (List.getElem?_eq_some_iff.1 hq).1]
 ·rw [if_neg e]
theorem Te {glue:Nat->Int}: ∀(ys:List Nat) (sn:List Bool),(∀y∈ys,sn.getD y false=true/\sn.getD (glue y).toNat false=true)->ys.foldl (cV glue) sn=sn
 |[],_,_=>rfl
 |y::ys,sn,h=>by
  obtain ⟨h1,h2⟩:=h y (List.mem_cons_self ..);rw [List.foldl_cons,show cV glue sn y=sn by unfold cV;rw [SP h1,SP h2]];exact Te ys sn fun z hz=>h z (List.mem_cons_of_mem _ hz)
theorem Ll (l:List Bool) (i j:Nat) (hi:i<l.length):(l.set i true).getD j false=if i=j then true else l.getD j false:=by
 by_cases e:i=j
 ·subst e;rw [if_pos rfl];simp [List.getD_eq_getElem?_getD,hi]
 ·rw [if_neg e];simp [List.getD_eq_getElem?_getD,List.getElem?_set,e]
theorem K7 {glue:Nat->Int} {sn:List Bool} {y:Nat} (hy:y<sn.length) (hz:(glue y).toNat<sn.length) (j:Nat):(cV glue sn y).getD j false=if j=y\/j=(glue y).toNat then true else sn.getD j false:=by
 unfold cV;rw [Ll _ _ _ (by simpa using hz),Ll _ _ _ hy];by_cases e1:(glue y).toNat=j
 ·rw [if_pos e1,if_pos (.inr e1.symm)]
 ·rw [if_neg e1];by_cases e2:y=j
  ·rw [if_pos e2,if_pos (.inl e2.symm)]
  ·rw [if_neg e2,if_neg (by rintro (g|g)<;>omega)]
theorem Hj (glue:Nat->Int) (sn:List Bool) (y:Nat):(cV glue sn y).length=sn.length:=by simp [cV]
theorem Lx: ∀(l:List Bool) (i:Nat),l.getD i false=false->i<l.length->(l.set i true).count true=l.count true+1
 |[],i,_,h=>by simp at h
 |x::l,0,h,_=>by
  simp only [List.getD_cons_zero] at h;subst h;simp
 |x::l,i+1,h,hl=>by
  have ih:=Lx l i (by simpa using h) (by simpa using hl);simp only [List.set_cons_succ,List.count_cons,ih];omega
theorem Lw {glue:Nat->Int} {sn:List Bool} {y:Nat} (hy:y<sn.length) (hz:(glue y).toNat<sn.length) (az:(glue y).toNat≠y) (h1:sn.getD y false=false) (h2:sn.getD (glue y).toNat false=false):(cV glue sn y).count true=sn.count true+2:=by
 unfold cV;rw [Lx _ _ (by rw [Ll _ _ _ hy,if_neg (fun e=>az e.symm)];exact h2) (by simpa using hz),Lx _ _ h1 hy]
structure FV (n W:Nat) (mt b0:Int->Int) (arc:Nat->Nat) (glue:Nat->Int) (hv:Nat->Int):Prop where
 nod:Nod W arc glue
 inv:Inv2 n mt b0
 inj: ∀x y,x<W->y<W->hv x=hv y->x=y
 cn: ∀x,x<W->au n (hv x)
 mtg: ∀x,x<W->0<=glue x->mt (hv x)=hv (glue x).toNat
 ba: ∀x,x<W->b0 (hv x)=hv (arc x)
structure ju (n W:Nat) (mt b0:Int->Int) (arc:Nat->Nat) (glue:Nat->Int) (hv:Nat->Int) (b:Int->Int) (sn:List Bool) (c:Nat) (ex dn:Nat->Prop):Prop where
 inv:Inv2 n mt b
 off: ∀h,au n h->(∀x,x<W->h≠hv x)->b h=b0 h
 sl:sn.length=W
 seen: ∀x,x<W->sn.getD x false=true->0<=glue x/\sn.getD (glue x).toNat false=true/\b (hv x)=hv (glue x).toNat
 org: ∀x,x<W->sn.getD x false=false-> ¬ex x-> ¬dn x->b (hv x)=hv (arc x)
 dne: ∀u,dn u->u<W/\glue u<0/\ ∃ys e,lr arc glue u ys e/\ys.length<=W/\dn e/\b (hv u)=hv e/\ ∀y∈ys,sn.getD y false=true/\sn.getD (glue y).toNat false=true
 bt:2*ot n mt b+2*c=2*ot n mt b0+sn.count true
section
variable {n W:Nat} {mt b0:Int->Int} {arc:Nat->Nat} {glue:Nat->Int} {hv:Nat->Int} (E:FV n W mt b0 arc glue hv)
include E
theorem FV.gW {x:Nat} (hx:x<W) (hg:0<=glue x):(glue x).toNat<W/\((glue x).toNat:Int)=glue x/\glue (glue x).toNat=x/\(glue x).toNat≠x:=by
 have h1:=E.nod.gr x hx hg;have h2:=E.nod.gf x hx;exact ⟨by omega,by omega,E.nod.gg x hx hg,by omega⟩
theorem ju.step {b:Int->Int} {sn:List Bool} {c x y:Nat} {dn:Nat->Prop} (h:ju n W mt b0 arc glue hv b sn c (fun u=>u=x\/u=y) dn) (hx:x<W) (hy:y<W) (nS:b (hv y)=hv x) (hg:0<=glue y) (ya:sn.getD y false=false) (Ie:x≠(glue y).toNat) (Pe:sn.getD x false=false) (IC: ¬dn x):
  ju n W mt b0 arc glue hv (fu mt b (hv y)) (cV glue sn y) c (fun u=>u=x\/u=arc (glue y).toNat) dn/\fu mt b (hv y) (hv x)=hv (arc (glue y).toNat)/\arc (glue y).toNat≠x/\fu mt b (hv y) (hv (arc (glue y).toNat))=hv x:=by
 obtain ⟨zW,ze,zg,zy⟩:=E.gW hy hg;have EO:=E.mtg y hy hg;have hxy':b (hv x)=hv y:=by have:=congrArg b nS;rw [h.inv.jj _ (E.cn y hy)] at this;exact this.symm
 have Es:x≠y:=fun e=>h.inv.jf _ (E.cn y hy) (by rw [nS,e]);have lH:sn.getD (glue y).toNat false=false:=by
  cases hz:sn.getD (glue y).toNat false with
  |false=>rfl
  |true=>
   have:=(h.seen _ zW hz).2.1
   rw [zg] at this;simp only [Int.toNat_natCast] at this;rw [this] at ya;cases ya
 have WM: ¬dn (glue y).toNat:=fun hd=>by have:=(h.dne _ hd).2.1;rw [zg] at this;omega
 have CB:b (hv (glue y).toNat)=hv (arc (glue y).toNat):=h.org _ zW lH (by rintro (e|e)<;>omega) WM;have aW:=E.nod.ar _ zW;have az:b (hv y)≠mt (hv y):=by rw [nS,EO];intro e;exact Ie (E.inj _ _ hx zW e)
 obtain ⟨f1,f2,f3,f4,f5,f6,f7,f8,f9⟩:=Dr h.inv (E.cn y hy) az;rw [EO,CB,nS] at f8;rw [EO,CB] at f7;have rV:arc (glue y).toNat≠x:=fun e=>f8 (by rw [e]);have XK:arc (glue y).toNat≠y:=fun e=>f7 (by rw [e]);have Qm:arc (glue y).toNat≠(glue y).toNat:=E.nod.af _ zW;have inj:=fun u v hu fN=>fun e=>E.inj u v hu fN e
 have val: ∀u,u<W->fu mt b (hv y) (hv u)=if u=y then hv (glue y).toNat else if u=(glue y).toNat then hv y else if u=x then hv (arc (glue y).toNat) else if u=arc (glue y).toNat then hv x else b (hv u):=fun u hu=>by
  unfold fu;rw [EO,nS,CB];by_cases e1:u=y
  ·rw [if_pos e1,if_pos (by rw [e1])]
  ·rw [if_neg e1,if_neg (fun e=>e1 (E.inj _ _ hu hy e))];by_cases e2:u=(glue y).toNat
   ·rw [if_pos e2,if_pos (by rw [←e2])]
   ·rw [if_neg e2,if_neg (fun e=>e2 (E.inj _ _ hu zW e))];by_cases e3:u=x
    ·rw [if_pos e3,if_pos (by rw [e3])]
    ·rw [if_neg e3,if_neg (fun e=>e3 (E.inj _ _ hu hx e))];by_cases e4:u=arc (glue y).toNat
     ·rw [if_pos e4,if_pos (by rw [←e4])]
     ·rw [if_neg e4,if_neg (fun e=>e4 (E.inj _ _ hu aW e))]
 have yl:y<sn.length:=by rw [h.sl];exact hy
 have zl:(glue y).toNat<sn.length:=by rw [h.sl];exact zW
 have sg:=fun j=>K7 (glue:=glue) yl zl j;have has:sn.getD (arc (glue y).toNat) false=false:=by
  cases hq:sn.getD (arc (glue y).toNat) false with
  |false=>rfl
  |true=>
   obtain ⟨g1,_,g3⟩:=h.seen _ aW hq;have h1:b (hv (arc (glue y).toNat))=hv (glue y).toNat:=by rw [←CB,h.inv.jj _ (E.cn _ zW)]
   rw [g3] at h1;have h2:=E.inj _ _ (E.gW aW g1).1 zW h1;have h3:=E.nod.gg _ aW g1;rw [h2,zg] at h3;exact absurd (show y=arc (glue y).toNat by omega).symm XK
 refine ⟨⟨Ke h.inv (E.cn y hy) az,fun q hq hn=>?_,by rw [Hj];exact h.sl,fun u hu hs=>?_,fun u hu hs hex hd=>?_,fun u hd=>?_,?_⟩,?_,rV,?_⟩
 ·have:fu mt b (hv y) q=b q:=by
   unfold fu;rw [EO,nS,CB,if_neg (hn y hy),if_neg (hn _ zW),if_neg (hn x hx),if_neg (hn _ aW)]
  rw [this];exact h.off q hq hn
 ·rw [sg] at hs;rw [val u hu];by_cases e1:u=y
  ·rw [if_pos e1,e1];exact ⟨hg,by rw [sg,if_pos (.inr rfl)],rfl⟩
  ·by_cases e2:u=(glue y).toNat
   ·rw [if_neg e1,if_pos e2,e2,zg];exact ⟨by omega,by rw [sg,if_pos (.inl (by omega))],by simp⟩
   ·rw [if_neg (by rintro (g|g)<;>omega)] at hs;obtain ⟨g1,g2,g3⟩:=h.seen u hu hs;refine ⟨g1,by rw [sg];split<;>first|rfl|exact g2,?_⟩;rw [if_neg e1,if_neg e2,if_neg (fun e=>by rw [e,Pe] at hs;cases hs),if_neg (fun e=>by rw [e,has] at hs;cases hs)];exact g3
 ·rw [sg] at hs;by_cases e1:u=y\/u=(glue y).toNat
  ·rw [if_pos e1] at hs;cases hs
  ·rw [if_neg e1] at hs;rw [val u hu,if_neg (fun e=>e1 (.inl e)),if_neg (fun e=>e1 (.inr e)),if_neg (fun e=>hex (.inl e)),if_neg (fun e=>hex (.inr e))];exact h.org u hu hs (by rintro (e|e);exact hex (.inl e);exact e1 (.inl e)) hd
 ·obtain ⟨g1,g2,ys,e,g3,g4,g5,g6,g7⟩:=h.dne u hd;refine ⟨g1,g2,ys,e,g3,g4,g5,?_,fun w hw=>?_⟩
  ·have k1:u≠y:=fun e=>by rw [e] at g2;omega
   have k2:u≠(glue y).toNat:=fun e=>by rw [e,zg] at g2;omega
   have k3:u≠x:=fun e=>IC (e▸hd);have k4:u≠arc (glue y).toNat:=fun e2=>by
    have h1:b (hv (arc (glue y).toNat))=hv (glue y).toNat:=by rw [←CB,h.inv.jj _ (E.cn _ zW)]
    rw [←e2,g6] at h1
    have:=E.inj _ _ (h.dne e g5).1 zW h1
    exact WM (this▸g5)
   rw [val u g1,if_neg k1,if_neg k2,if_neg k3,if_neg k4];exact g6
  ·obtain ⟨q1,q2⟩:=g7 w hw;exact ⟨by rw [sg];split<;>first|rfl|exact q1,by rw [sg];split<;>first|rfl|exact q2⟩
 ·have h1:=NL h.inv (E.cn y hy) az;have h2:=Lw yl zl zy ya lH
  have:=h.bt
  omega
 ·rw [val x hx,if_neg Es,if_neg Ie,if_pos rfl]
 ·rw [val _ aW,if_neg XK,if_neg Qm,if_neg rV,if_pos rfl]
end
inductive vG (arc:Nat->Nat) (glue:Nat->Int):List Bool->Nat->List Nat->Prop
 |stop {sn:List Bool} {z:Nat} (h:sn.getD z false=true):vG arc glue sn z []
 |step {sn:List Bool} {z:Nat} {zs:List Nat} (h:sn.getD z false=false) (hg:0<=glue z) (k:vG arc glue (cV glue sn z) (arc (glue z).toNat) zs):vG arc glue sn z (z::zs)
theorem SO {arc:Nat->Nat} {glue:Nat->Int} {sn:List Bool} {z:Nat} {zs:List Nat} (h:vG arc glue sn z zs): ∀f:Nat,zs.length<f->nj arc glue f sn z=zs.foldl (cV glue) sn:=by
 induction h with
 |stop h=>
  intro f hf;obtain ⟨f,rfl⟩: ∃f',f=f'+1:=⟨f-1,by omega⟩;simp only [nj,List.foldl_nil,h,if_true]
 |step h hg k ih=>
  intro f hf;simp only [List.length_cons] at hf;obtain ⟨f,rfl⟩: ∃f',f=f'+1:=⟨f-1,by omega⟩;simp only [nj,List.foldl_cons,h,Bool.false_eq_true,if_false];exact ih f (by omega)
def txN (arc:Nat->Nat) (glue index:Nat->Int) (W E:Nat):Nat->List Int
 |0=>List.replicate E 0
 |k+1=>if index k<0 then txN arc glue index W E k else (txN arc glue index W E k).set (index k).toNat (97+index (pthN arc glue (W+1) [] (arc k)).2)
theorem zb (arc:Nat->Nat) (glue index:Nat->Int) (W E:Nat): ∀k,(txN arc glue index W E k).length=E
 |0=>by simp [txN]
 |k+1=>by
  simp only [txN]
  split
  ·exact zb arc glue index W E k
  ·rw [List.length_set];exact zb arc glue index W E k
theorem SN (arc:Nat->Nat) (glue:Nat->Int): ∀(f:Nat) (sn:List Bool) (y:Nat),(pthN arc glue f sn y).1.length=sn.length
 |0,_,_=>rfl
 |f+1,sn,y=>by
  simp only [pthN]
  split
  ·rw [SN arc glue f];simp
  ·rfl
theorem Hi (W:Nat) (arc:Nat->Nat) (glue:Nat->Int): ∀k,(endN W arc glue k).length=W
 |0=>by simp [endN]
 |k+1=>by
  simp only [endN]
  split
  ·exact Hi W arc glue k
  ·rw [SN];exact Hi W arc glue k
theorem SM (arc:Nat->Nat) (glue:Nat->Int): ∀(f:Nat) (sn:List Bool) (z:Nat),(nj arc glue f sn z).length=sn.length
 |0,_,_=>rfl
 |f+1,sn,z=>by
  simp only [nj]
  split
  ·rfl
  ·rw [SM arc glue f];simp
theorem Hh (W:Nat) (arc:Nat->Nat) (glue:Nat->Int) (qz:List Bool): ∀k,(bU W arc glue qz k).1.length=qz.length
 |0=>rfl
 |k+1=>by
  simp only [bU]
  split
  ·exact Hh W arc glue qz k
  ·rw [SM];exact Hh W arc glue qz k
theorem Kd (W:Nat) (arc:Nat->Nat) (glue:Nat->Int) (qz:List Bool): ∀k,(bU W arc glue qz k).2<=k
 |0=>Nat.le_refl _
 |k+1=>by
  have:=Kd W arc glue qz k
  simp only [bU]
  split<;>omega
end Go.Proofs.YtphjphpmfflfpaaGreatDoor
