/- Plain: a pair of mates is taken out of the circles of a state. -/
import Derived.Test.YtphjphpmfflfpaaGreatDoorZe
set_option linter.unusedSimpArgs false
set_option linter.unusedVariables false
namespace Go.Proofs.YtphjphpmfflfpaaGreatDoor
def mR (n:Nat) (mt b:Int->Int):Nat:=roots (crN mt b (4*n) (4*n))
def dX (mt b:Int->Int) (y:Int) (x:Int):Int:=
 if x=y then mt y else if x=mt y then y else if x=b y then b (mt y) else if x=b (mt y) then b y else b x
section
variable {n:Nat} {mt b:Int->Int} (hi:Inv2 n mt b) {y:Int} (hy:ax n y) (aw:b y≠mt y)
include hi hy aw
theorem AL:ax n (mt y)/\ax n (b y)/\ax n (b (mt y))/\mt y≠y/\b y≠y/\b (mt y)≠mt y/\b (mt y)≠y/\b (mt y)≠b y/\b y≠mt y:=by
 have h1:=hi.mr y hy;refine ⟨h1,hi.jr y hy,hi.jr _ h1,hi.mf y hy,hi.jf y hy,hi.jf _ h1,fun e=>?_,fun e=>?_,aw⟩
 ·have:=congrArg b e
  rw [hi.jj _ h1] at this;exact aw this.symm
 ·have:=congrArg b e
  rw [hi.jj _ h1,hi.jj _ hy] at this;exact hi.mf y hy this
theorem GN:Inv2 n mt (dX mt b y):=by
 obtain ⟨z1,p1,q1,n1,n2,n3,n4,n5,n6⟩:=AL hi hy aw;refine ⟨hi.mr,fun x hx=>?_,hi.mm,fun x hx=>?_,hi.mf,fun x hx=>?_⟩
 ·unfold dX
  split
  ·exact z1
  ·split
   ·exact hy
   ·split
    ·exact q1
    ·split
     ·exact p1
     ·exact hi.jr x hx
 ·by_cases e1:x=y
  ·rw [e1];unfold dX;rw [if_pos rfl,if_neg n1,if_pos rfl]
  ·by_cases e2:x=mt y
   ·rw [e2];unfold dX;rw [if_neg n1,if_pos rfl,if_pos rfl]
   ·by_cases e3:x=b y
    ·have:dX mt b y x=b (mt y):=by unfold dX;rw [if_neg e1,if_neg e2,if_pos e3]
     rw [this];unfold dX;rw [if_neg n4,if_neg n3,if_neg n5,if_pos rfl,e3]
    ·by_cases e4:x=b (mt y)
     ·have:dX mt b y x=b y:=by unfold dX;rw [if_neg e1,if_neg e2,if_neg e3,if_pos e4]
      rw [this];unfold dX;rw [if_neg n2,if_neg n6,if_pos rfl,e4]
     ·have:dX mt b y x=b x:=by unfold dX;rw [if_neg e1,if_neg e2,if_neg e3,if_neg e4]
      rw [this];have k1:b x≠y:=fun e=>e3 (by rw [←e,hi.jj x hx]);have k2:b x≠mt y:=fun e=>e4 (by rw [←e,hi.jj x hx]);have k3:b x≠b y:=fun e=>e1 (by have:=congrArg b e;rwa [hi.jj x hx,hi.jj y hy] at this);have k4:b x≠b (mt y):=fun e=>e2 (by have:=congrArg b e;rwa [hi.jj x hx,hi.jj _ z1] at this);unfold dX;rw [if_neg k1,if_neg k2,if_neg k3,if_neg k4,hi.jj x hx]
 ·unfold dX
  split
  ·rename_i e;rw [e];exact n1
  ·split
   ·rename_i e;rw [e];exact n1.symm
   ·split
    ·rename_i e;rw [e];exact n5
    ·split
     ·rename_i e;rw [e];exact n5.symm
     ·exact hi.jf x hx
theorem UE {u v:Int} (h:aL mt (dX mt b y) u v) (hu:ax n u):aL mt b u v:=by
 obtain ⟨z1,p1,q1,n1,n2,n3,n4,n5,n6⟩:=AL hi hy aw;have Cr:=GN hi hy aw;have BI:aL mt b y (mt y):= .aJ (.refl y);have oX:aL mt b (b y) (b (mt y)):=by
  have h1:aL mt b (b y) (b (b y)):= .join (.refl _);rw [hi.jj y hy] at h1;exact .join (.aJ h1)
 induction h with
 |refl=>exact .refl _
 |aJ _ ih=>exact .aJ ih
 | @join w hw ih=>
   have hwr:=hw.bP Cr hu;refine ih.trans ?_;unfold dX
   split
   ·rename_i e;rw [e];exact BI
   ·split
    ·rename_i e;rw [e];exact BI.symm hi hy
    ·split
     ·rename_i e;rw [e];exact oX
     ·split
      ·rename_i e;rw [e];exact oX.symm hi p1
      ·exact .join (.refl _)
theorem UD {v:Int} (h:aL mt (dX mt b y) y v):v=y\/v=mt y:=by
 obtain ⟨z1,p1,q1,n1,n2,n3,n4,n5,n6⟩:=AL hi hy aw
 induction h with
 |refl=>exact .inl rfl
 |aJ _ ih=>
  rcases ih with e|e
  ·exact .inr (by rw [e])
  ·exact .inl (by rw [e,hi.mm y hy])
 |join _ ih=>
  rcases ih with e|e
  ·rw [e];unfold dX;rw [if_pos rfl];exact .inr rfl
  ·rw [e];unfold dX;rw [if_neg n1,if_pos rfl];exact .inl rfl
theorem UC:mR n mt (dX mt b y)=mR n mt b+1:=by
 obtain ⟨z1,p1,q1,n1,n2,n3,n4,n5,n6⟩:=AL hi hy aw;have Cr:=GN hi hy aw;have hR:=v8 Cr;have hB:=v8 hi;unfold mR;generalize crN mt (dX mt b y) (4*n) (4*n)=R at*;have nat: ∀x,ax n x->x.toNat<4*n/\(x.toNat:Int)=x:=fun x hx=>by unfold ax at hx;omega
 obtain ⟨yl,ye⟩:=nat y hy;obtain ⟨pl,pe⟩:=nat _ p1;obtain ⟨zl,ze⟩:=nat _ z1;obtain ⟨ql,qe⟩:=nat _ q1;have hyp:aL mt b y (b y):= .join (.refl y);have zm:R.getD y.toNat 0≠R.getD (b y).toNat 0:=fun e=>by
  have:=(hR.iff _ _ yl pl).1 e
  rw [ye,pe] at this;rcases UD hi hy aw this with e1|e1
  ·exact n2 e1
  ·exact n6 e1
 have bo: ∀u v:Nat,u<4*n->v<4*n->aL mt (dX mt b y) u v->R.getD u 0=R.getD v 0:=fun u v hu hv h=>(hR.iff u v hu hv).2 h;have hJ:dY n mt b (dL R y.toNat (b y).toNat):=by
  refine dY.of hi (AM hR.rep yl pl) ?_ (fun x hx=>?_) (fun x hx=>?_)
  ·refine EJ hi hR.rep (fun u v hu hv e=>UE hi hy aw ((hR.iff u v hu hv).1 e) (by unfold ax;omega)) yl pl ?_;rw [ye,pe];exact hyp
  ·have BM:ax n (x:Int):=by unfold ax;omega
   obtain ⟨ml,me⟩:=nat _ (hi.mr _ BM);refine pB hR.rep.len ml hx (bo _ _ ml hx ?_);rw [me];have h1:aL mt (dX mt b y) (mt x) (mt (mt x)):= .aJ (.refl _);rwa [hi.mm _ BM] at h1
  ·have BM:ax n (x:Int):=by unfold ax;omega
   obtain ⟨bl,be⟩:=nat _ (hi.jr _ BM);have step: ∀w:Int,ax n w-> ∀wl:w.toNat<4*n,R.getD (dX mt b y w).toNat 0=R.getD w.toNat 0:=fun w hw wl=>by
    obtain ⟨cl,ce⟩:=nat _ (Cr.jr w hw);obtain ⟨_,we⟩:=nat w hw;refine bo _ _ cl wl ?_;rw [ce,we];have h1:aL mt (dX mt b y) (dX mt b y w) (dX mt b y (dX mt b y w)):= .join (.refl _);rwa [Cr.jj w hw] at h1
   have BI:R.getD (mt y).toNat 0=R.getD y.toNat 0:=by
    have:=step y hy yl
    unfold dX at this;rwa [if_pos rfl] at this
   have oX:R.getD (b (mt y)).toNat 0=R.getD (b y).toNat 0:=by
    have:=step (b y) p1 pl
    unfold dX at this;rwa [if_neg n2,if_neg n6,if_pos rfl] at this
   have hj:=AU hR.rep.len yl pl;by_cases e1:(x:Int)=y
   ·have ex:x=y.toNat:=by omega
    rw [e1,ex];exact hj.symm
   ·by_cases e2:(x:Int)=mt y
    ·have ex:x=(mt y).toNat:=by omega
     rw [e2,ex];exact (pB hR.rep.len ql pl oX).trans (hj.symm.trans (pB hR.rep.len yl zl BI.symm))
    ·by_cases e3:(x:Int)=b y
     ·have ex:x=(b y).toNat:=by omega
      rw [e3,hi.jj y hy,ex];exact hj
     ·by_cases e4:(x:Int)=b (mt y)
      ·have ex:x=(b (mt y)).toNat:=by omega
       rw [e4,hi.jj _ z1,ex];exact ((pB hR.rep.len zl yl BI).trans hj).trans (pB hR.rep.len pl ql oX.symm)
      ·have h1:=step x BM (by omega);have h2:dX mt b y x=b x:=by unfold dX;rw [if_neg e1,if_neg e2,if_neg e3,if_neg e4]
       rw [h2] at h1
       have:=pB (g:=y.toNat) (h:=(b y).toNat) hR.rep.len bl (show (x:Int).toNat<4*n by omega) h1
       simpa using this
 rw [PM hR.rep yl pl zm,Ev hJ hB]
end
structure Zl (W:Nat) (arc:Nat->Nat) (glue:Nat->Int):Prop where
 ar: ∀x,x<W->arc x<W
 aa: ∀x,x<W->arc (arc x)=x
 af: ∀x,x<W->arc x≠x
 gr: ∀x,x<W->0<=glue x->glue x<W
 gg: ∀x,x<W->0<=glue x->glue (glue x).toNat=x
 gf: ∀x,x<W->glue x≠x
def pthN (arc:Nat->Nat) (glue:Nat->Int):Nat->List Bool->Nat->List Bool×Nat
 |0,sn,y=>(sn,y)
 |f+1,sn,y=>if 0<=glue y then pthN arc glue f ((sn.set y true).set (glue y).toNat true) (arc (glue y).toNat) else (sn,y)
def lS (arc:Nat->Nat) (glue:Nat->Int):Nat->List Bool->Nat->List Bool
 |0,sn,_=>sn
 |f+1,sn,z=>if sn.getD z false then sn else lS arc glue f ((sn.set z true).set (glue z).toNat true) (arc (glue z).toNat)
def endN (W:Nat) (arc:Nat->Nat) (glue:Nat->Int):Nat->List Bool
 |0=>List.replicate W false
 |k+1=>if 0<=glue k then endN W arc glue k else (pthN arc glue (W+1) (endN W arc glue k) (arc k)).1
def br (W:Nat) (arc:Nat->Nat) (glue:Nat->Int) (oL:List Bool):Nat->List Bool×Nat
 |0=>(oL,0)
 |k+1=>let r:=br W arc glue oL k
  if glue k<0\/r.1.getD k false=true then r else (lS arc glue (W+1) r.1 k,r.2+1)
inductive kj (arc:Nat->Nat) (glue:Nat->Int):Nat->List Nat->Nat->Prop
 |nil {u:Nat} (h:glue (arc u)<0):kj arc glue u [] (arc u)
 |cons {u e:Nat} {ys:List Nat} (h:0<=glue (arc u)) (k:kj arc glue (glue (arc u)).toNat ys e):kj arc glue u (arc u::ys) e
def b5 (glue:Nat->Int) (sn:List Bool) (y:Nat):List Bool:=(sn.set y true).set (glue y).toNat true
theorem yF {arc:Nat->Nat} {glue:Nat->Int} {u e:Nat} {ys:List Nat} (h:kj arc glue u ys e): ∀(f:Nat) (sn:List Bool),ys.length<f->pthN arc glue f sn (arc u)=(ys.foldl (b5 glue) sn,e):=by
 induction h with
 |nil h=>
  intro f sn hf;obtain ⟨f,rfl⟩: ∃f',f=f'+1:=⟨f-1,by omega⟩;simp only [pthN,List.foldl_nil];rw [if_neg (by omega)]
 |cons h k ih=>
  intro f sn hf;simp only [List.length_cons] at hf;obtain ⟨f,rfl⟩: ∃f',f=f'+1:=⟨f-1,by omega⟩;simp only [pthN,List.foldl_cons];rw [if_pos h];exact ih f _ (by omega)
theorem Oj {sn:List Bool} {y:Nat} (h:sn.getD y false=true):sn.set y true=sn:=by
 apply List.ext_getElem?;intro i;rw [List.getElem?_set];by_cases e:y=i
 ·subst e;rw [if_pos rfl];rw [List.getD_eq_getElem?_getD] at h;cases hq:sn[y]? with
  |none=>rw [hq] at h;simp at h
  |some v=>rw [hq] at h;simp at h;subst h;rw [if_pos (List.getElem?_eq_some_iff.1 hq).1]
 ·rw [if_neg e]
theorem Po {glue:Nat->Int}: ∀(ys:List Nat) (sn:List Bool),(∀y∈ys,sn.getD y false=true/\sn.getD (glue y).toNat false=true)->ys.foldl (b5 glue) sn=sn
 |[],_,_=>rfl
 |y::ys,sn,h=>by
  obtain ⟨h1,h2⟩:=h y (List.mem_cons_self ..);rw [List.foldl_cons,show b5 glue sn y=sn by unfold b5;rw [Oj h1,Oj h2]];exact Po ys sn fun z hz=>h z (List.mem_cons_of_mem _ hz)
theorem Ib (l:List Bool) (i j:Nat) (hi:i<l.length):(l.set i true).getD j false=if i=j then true else l.getD j false:=by
 by_cases e:i=j
 ·subst e;rw [if_pos rfl];simp [List.getD_eq_getElem?_getD,hi]
 ·rw [if_neg e];simp [List.getD_eq_getElem?_getD,List.getElem?_set,e]
theorem HW {glue:Nat->Int} {sn:List Bool} {y:Nat} (hy:y<sn.length) (hz:(glue y).toNat<sn.length) (j:Nat):(b5 glue sn y).getD j false=if j=y\/j=(glue y).toNat then true else sn.getD j false:=by
 unfold b5;rw [Ib _ _ _ (by simpa using hz),Ib _ _ _ hy];by_cases e1:(glue y).toNat=j
 ·rw [if_pos e1,if_pos (.inr e1.symm)]
 ·rw [if_neg e1];by_cases e2:y=j
  ·rw [if_pos e2,if_pos (.inl e2.symm)]
  ·rw [if_neg e2,if_neg (by rintro (g|g)<;>omega)]
theorem Et (glue:Nat->Int) (sn:List Bool) (y:Nat):(b5 glue sn y).length=sn.length:=by simp [b5]
theorem Ip: ∀(l:List Bool) (i:Nat),l.getD i false=false->i<l.length->(l.set i true).count true=l.count true+1
 |[],i,_,h=>by simp at h
 |x::l,0,h,_=>by
  simp only [List.getD_cons_zero] at h;subst h;simp
 |x::l,i+1,h,hl=>by
  have ih:=Ip l i (by simpa using h) (by simpa using hl);simp only [List.set_cons_succ,List.count_cons,ih];omega
theorem Io {glue:Nat->Int} {sn:List Bool} {y:Nat} (hy:y<sn.length) (hz:(glue y).toNat<sn.length) (aw:(glue y).toNat≠y) (h1:sn.getD y false=false) (h2:sn.getD (glue y).toNat false=false):(b5 glue sn y).count true=sn.count true+2:=by
 unfold b5;rw [Ip _ _ (by rw [Ib _ _ _ hy,if_neg (fun e=>aw e.symm)];exact h2) (by simpa using hz),Ip _ _ h1 hy]
structure Dh (n W:Nat) (mt b0:Int->Int) (arc:Nat->Nat) (glue:Nat->Int) (hv:Nat->Int):Prop where
 nod:Zl W arc glue
 inv:Inv2 n mt b0
 inj: ∀x y,x<W->y<W->hv x=hv y->x=y
 bP: ∀x,x<W->ax n (hv x)
 mtg: ∀x,x<W->0<=glue x->mt (hv x)=hv (glue x).toNat
 ba: ∀x,x<W->b0 (hv x)=hv (arc x)
structure iD (n W:Nat) (mt b0:Int->Int) (arc:Nat->Nat) (glue:Nat->Int) (hv:Nat->Int) (b:Int->Int) (sn:List Bool) (c:Nat) (ex dn:Nat->Prop):Prop where
 inv:Inv2 n mt b
 off: ∀h,ax n h->(∀x,x<W->h≠hv x)->b h=b0 h
 sl:sn.length=W
 seen: ∀x,x<W->sn.getD x false=true->0<=glue x/\sn.getD (glue x).toNat false=true/\b (hv x)=hv (glue x).toNat
 org: ∀x,x<W->sn.getD x false=false-> ¬ex x-> ¬dn x->b (hv x)=hv (arc x)
 dne: ∀u,dn u->u<W/\glue u<0/\ ∃ys e,kj arc glue u ys e/\ys.length<=W/\dn e/\b (hv u)=hv e/\ ∀y∈ys,sn.getD y false=true/\sn.getD (glue y).toNat false=true
 aS:2*mR n mt b+2*c=2*mR n mt b0+sn.count true
section
variable {n W:Nat} {mt b0:Int->Int} {arc:Nat->Nat} {glue:Nat->Int} {hv:Nat->Int} (E:Dh n W mt b0 arc glue hv)
include E
theorem Dh.gW {x:Nat} (hx:x<W) (hg:0<=glue x):(glue x).toNat<W/\((glue x).toNat:Int)=glue x/\glue (glue x).toNat=x/\(glue x).toNat≠x:=by
 have h1:=E.nod.gr x hx hg;have h2:=E.nod.gf x hx;exact ⟨by omega,by omega,E.nod.gg x hx hg,by omega⟩
theorem iD.step {b:Int->Int} {sn:List Bool} {c x y:Nat} {dn:Nat->Prop} (h:iD n W mt b0 arc glue hv b sn c (fun u=>u=x\/u=y) dn) (hx:x<W) (hy:y<W) (oQ:b (hv y)=hv x) (hg:0<=glue y) (vA:sn.getD y false=false) (Fa:x≠(glue y).toNat) (Ks:sn.getD x false=false) (Fx: ¬dn x):
  iD n W mt b0 arc glue hv (dX mt b (hv y)) (b5 glue sn y) c (fun u=>u=x\/u=arc (glue y).toNat) dn/\dX mt b (hv y) (hv x)=hv (arc (glue y).toNat)/\arc (glue y).toNat≠x/\dX mt b (hv y) (hv (arc (glue y).toNat))=hv x:=by
 obtain ⟨zW,ze,zg,zy⟩:=E.gW hy hg;have Ce:=E.mtg y hy hg;have XF:b (hv x)=hv y:=by have:=congrArg b oQ;rw [h.inv.jj _ (E.bP y hy)] at this;exact this.symm
 have BN:x≠y:=fun e=>h.inv.jf _ (E.bP y hy) (by rw [oQ,e]);have kv:sn.getD (glue y).toNat false=false:=by
  cases hz:sn.getD (glue y).toNat false with
  |false=>rfl
  |true=>
   have:=(h.seen _ zW hz).2.1
   rw [zg] at this;simp only [Int.toNat_natCast] at this;rw [this] at vA;cases vA
 have RD: ¬dn (glue y).toNat:=fun hd=>by have:=(h.dne _ hd).2.1;rw [zg] at this;omega
 have zD:b (hv (glue y).toNat)=hv (arc (glue y).toNat):=h.org _ zW kv (by rintro (e|e)<;>omega) RD;have aW:=E.nod.ar _ zW;have aw:b (hv y)≠mt (hv y):=by rw [oQ,Ce];intro e;exact Fa (E.inj _ _ hx zW e)
 obtain ⟨f1,f2,f3,f4,f5,f6,f7,f8,f9⟩:=AL h.inv (E.bP y hy) aw;rw [Ce,zD,oQ] at f8;rw [Ce,zD] at f7;have uJ:arc (glue y).toNat≠x:=fun e=>f8 (by rw [e]);have Sq:arc (glue y).toNat≠y:=fun e=>f7 (by rw [e]);have LJ:arc (glue y).toNat≠(glue y).toNat:=E.nod.af _ zW;have inj:=fun u v hu lE=>fun e=>E.inj u v hu lE e
 have val: ∀u,u<W->dX mt b (hv y) (hv u)=if u=y then hv (glue y).toNat else if u=(glue y).toNat then hv y else if u=x then hv (arc (glue y).toNat) else if u=arc (glue y).toNat then hv x else b (hv u):=fun u hu=>by
  unfold dX;rw [Ce,oQ,zD];by_cases e1:u=y
  ·rw [if_pos e1,if_pos (by rw [e1])]
  ·rw [if_neg e1,if_neg (fun e=>e1 (E.inj _ _ hu hy e))];by_cases e2:u=(glue y).toNat
   ·rw [if_pos e2,if_pos (by rw [←e2])]
   ·rw [if_neg e2,if_neg (fun e=>e2 (E.inj _ _ hu zW e))];by_cases e3:u=x
    ·rw [if_pos e3,if_pos (by rw [e3])]
    ·rw [if_neg e3,if_neg (fun e=>e3 (E.inj _ _ hu hx e))];by_cases e4:u=arc (glue y).toNat
     ·rw [if_pos e4,if_pos (by rw [←e4])]
     ·rw [if_neg e4,if_neg (fun e=>e4 (E.inj _ _ hu aW e))]
 have yl:y<sn.length:=by rw [h.sl];exact hy
 have zl:(glue y).toNat<sn.length:=by rw [h.sl];exact zW
 have sg:=fun j=>HW (glue:=glue) yl zl j;have has:sn.getD (arc (glue y).toNat) false=false:=by
  cases hq:sn.getD (arc (glue y).toNat) false with
  |false=>rfl
  |true=>
   obtain ⟨g1,_,g3⟩:=h.seen _ aW hq;have h1:b (hv (arc (glue y).toNat))=hv (glue y).toNat:=by rw [←zD,h.inv.jj _ (E.bP _ zW)]
   rw [g3] at h1;have h2:=E.inj _ _ (E.gW aW g1).1 zW h1;have h3:=E.nod.gg _ aW g1;rw [h2,zg] at h3;exact absurd (show y=arc (glue y).toNat by omega).symm Sq
 refine ⟨⟨GN h.inv (E.bP y hy) aw,fun q hq hn=>?_,by rw [Et];exact h.sl,fun u hu hs=>?_,fun u hu hs hex hd=>?_,fun u hd=>?_,?_⟩,?_,uJ,?_⟩
 ·have:dX mt b (hv y) q=b q:=by
   unfold dX;rw [Ce,oQ,zD,if_neg (hn y hy),if_neg (hn _ zW),if_neg (hn x hx),if_neg (hn _ aW)]
  rw [this];exact h.off q hq hn
 ·rw [sg] at hs;rw [val u hu];by_cases e1:u=y
  ·rw [if_pos e1,e1];exact ⟨hg,by rw [sg,if_pos (.inr rfl)],rfl⟩
  ·by_cases e2:u=(glue y).toNat
   ·rw [if_neg e1,if_pos e2,e2,zg];exact ⟨by omega,by rw [sg,if_pos (.inl (by omega))],by simp⟩
   ·rw [if_neg (by rintro (g|g)<;>omega)] at hs;obtain ⟨g1,g2,g3⟩:=h.seen u hu hs;refine ⟨g1,by rw [sg];split<;>first|rfl|exact g2,?_⟩;rw [if_neg e1,if_neg e2,if_neg (fun e=>by rw [e,Ks] at hs;cases hs),if_neg (fun e=>by rw [e,has] at hs;cases hs)];exact g3
 ·rw [sg] at hs;by_cases e1:u=y\/u=(glue y).toNat
  ·rw [if_pos e1] at hs;cases hs
  ·rw [if_neg e1] at hs;rw [val u hu,if_neg (fun e=>e1 (.inl e)),if_neg (fun e=>e1 (.inr e)),if_neg (fun e=>hex (.inl e)),if_neg (fun e=>hex (.inr e))];exact h.org u hu hs (by rintro (e|e);exact hex (.inl e);exact e1 (.inl e)) hd
 ·obtain ⟨g1,g2,ys,e,g3,g4,g5,g6,g7⟩:=h.dne u hd;refine ⟨g1,g2,ys,e,g3,g4,g5,?_,fun w hw=>?_⟩
  ·have k1:u≠y:=fun e=>by rw [e] at g2;omega
   have k2:u≠(glue y).toNat:=fun e=>by rw [e,zg] at g2;omega
   have k3:u≠x:=fun e=>Fx (e▸hd);have k4:u≠arc (glue y).toNat:=fun e2=>by
    have h1:b (hv (arc (glue y).toNat))=hv (glue y).toNat:=by rw [←zD,h.inv.jj _ (E.bP _ zW)]
    rw [←e2,g6] at h1
    have:=E.inj _ _ (h.dne e g5).1 zW h1
    exact RD (this▸g5)
   rw [val u g1,if_neg k1,if_neg k2,if_neg k3,if_neg k4];exact g6
  ·obtain ⟨q1,q2⟩:=g7 w hw;exact ⟨by rw [sg];split<;>first|rfl|exact q1,by rw [sg];split<;>first|rfl|exact q2⟩
 ·have h1:=UC h.inv (E.bP y hy) aw;have h2:=Io yl zl zy vA kv
  have:=h.aS
  omega
 ·rw [val x hx,if_neg BN,if_neg Fa,if_pos rfl]
 ·rw [val _ aW,if_neg Sq,if_neg LJ,if_neg uJ,if_pos rfl]
end
inductive tA (arc:Nat->Nat) (glue:Nat->Int):List Bool->Nat->List Nat->Prop
 |stop {sn:List Bool} {z:Nat} (h:sn.getD z false=true):tA arc glue sn z []
 |step {sn:List Bool} {z:Nat} {zs:List Nat} (h:sn.getD z false=false) (hg:0<=glue z) (k:tA arc glue (b5 glue sn z) (arc (glue z).toNat) zs):tA arc glue sn z (z::zs)
theorem Oi {arc:Nat->Nat} {glue:Nat->Int} {sn:List Bool} {z:Nat} {zs:List Nat} (h:tA arc glue sn z zs): ∀f:Nat,zs.length<f->lS arc glue f sn z=zs.foldl (b5 glue) sn:=by
 induction h with
 |stop h=>
  intro f hf;obtain ⟨f,rfl⟩: ∃f',f=f'+1:=⟨f-1,by omega⟩;simp only [lS,List.foldl_nil,h,if_true]
 |step h hg k ih=>
  intro f hf;simp only [List.length_cons] at hf;obtain ⟨f,rfl⟩: ∃f',f=f'+1:=⟨f-1,by omega⟩;simp only [lS,List.foldl_cons,h,Bool.false_eq_true,if_false];exact ih f (by omega)
def txN (arc:Nat->Nat) (glue index:Nat->Int) (W E:Nat):Nat->List Int
 |0=>List.replicate E 0
 |k+1=>if index k<0 then txN arc glue index W E k else (txN arc glue index W E k).set (index k).toNat (97+index (pthN arc glue (W+1) [] (arc k)).2)
theorem wC (arc:Nat->Nat) (glue index:Nat->Int) (W E:Nat): ∀k,(txN arc glue index W E k).length=E
 |0=>by simp [txN]
 |k+1=>by
  simp only [txN]
  split
  ·exact wC arc glue index W E k
  ·rw [List.length_set];exact wC arc glue index W E k
theorem Oh (arc:Nat->Nat) (glue:Nat->Int): ∀(f:Nat) (sn:List Bool) (y:Nat),(pthN arc glue f sn y).1.length=sn.length
 |0,_,_=>rfl
 |f+1,sn,y=>by
  simp only [pthN]
  split
  ·rw [Oh arc glue f];simp
  ·rfl
theorem Es (W:Nat) (arc:Nat->Nat) (glue:Nat->Int): ∀k,(endN W arc glue k).length=W
 |0=>by simp [endN]
 |k+1=>by
  simp only [endN]
  split
  ·exact Es W arc glue k
  ·rw [Oh];exact Es W arc glue k
theorem Og (arc:Nat->Nat) (glue:Nat->Int): ∀(f:Nat) (sn:List Bool) (z:Nat),(lS arc glue f sn z).length=sn.length
 |0,_,_=>rfl
 |f+1,sn,z=>by
  simp only [lS]
  split
  ·rfl
  ·rw [Og arc glue f];simp
theorem Er (W:Nat) (arc:Nat->Nat) (glue:Nat->Int) (oL:List Bool): ∀k,(br W arc glue oL k).1.length=oL.length
 |0=>rfl
 |k+1=>by
  simp only [br]
  split
  ·exact Er W arc glue oL k
  ·rw [Og];exact Er W arc glue oL k
theorem GM (W:Nat) (arc:Nat->Nat) (glue:Nat->Int) (oL:List Bool): ∀k,(br W arc glue oL k).2<=k
 |0=>Nat.le_refl _
 |k+1=>by
  have:=GM W arc glue oL k
  simp only [br]
  split<;>omega
end Go.Proofs.YtphjphpmfflfpaaGreatDoor
