/- Plain: a pair of mates is taken out of the circles of a state. -/
import Derived.Test.YtphjphpmfflfpaaDoorZc
import Derived.Test.YtphjphpmfflfpaaDoorTy
set_option linter.unusedSimpArgs false
set_option linter.unusedVariables false
namespace Go.Proofs.YtphjphpmfflfpaaDoor
def ncl (n:Nat) (mt b:Int->Int):Nat:=roots (crN mt b (4*n) (4*n))
def ctr (mt b:Int->Int) (y:Int) (x:Int):Int:=
 if x=y then mt y else if x=mt y then y else if x=b y then b (mt y) else if x=b (mt y) then b y else b x
section
variable {n:Nat} {mt b:Int->Int} (hi:Inv2 n mt b) {y:Int} (hy:InR n y) (hne:b y≠mt y)
include hi hy hne
theorem ye1:InR n (mt y)/\InR n (b y)/\InR n (b (mt y))/\mt y≠y/\b y≠y/\b (mt y)≠mt y/\b (mt y)≠y/\b (mt y)≠b y/\b y≠mt y:=by
 have h1:=hi.mr y hy
 refine ⟨h1,hi.jr y hy,hi.jr _ h1,hi.mf y hy,hi.jf y hy,hi.jf _ h1,fun e=>?_,fun e=>?_,hne⟩
 ·have:=congrArg b e
  rw [hi.jj _ h1] at this
  exact hne this.symm
 ·have:=congrArg b e
  rw [hi.jj _ h1,hi.jj _ hy] at this
  exact hi.mf y hy this
theorem ynu:Inv2 n mt (ctr mt b y):=by
 obtain ⟨z1,p1,q1,n1,n2,n3,n4,n5,n6⟩:=ye1 hi hy hne
 refine ⟨hi.mr,fun x hx=>?_,hi.mm,fun x hx=>?_,hi.mf,fun x hx=>?_⟩
 ·unfold ctr
  split
  ·exact z1
  ·split
   ·exact hy
   ·split
    ·exact q1
    ·split
     ·exact p1
     ·exact hi.jr x hx
 ·by_cases e1:x=y
  ·rw [e1];unfold ctr;rw [if_pos rfl,if_neg n1,if_pos rfl]
  ·by_cases e2:x=mt y
   ·rw [e2];unfold ctr;rw [if_neg n1,if_pos rfl,if_pos rfl]
   ·by_cases e3:x=b y
    ·have:ctr mt b y x=b (mt y):=by unfold ctr;rw [if_neg e1,if_neg e2,if_pos e3]
     rw [this];unfold ctr;rw [if_neg n4,if_neg n3,if_neg n5,if_pos rfl,e3]
    ·by_cases e4:x=b (mt y)
     ·have:ctr mt b y x=b y:=by unfold ctr;rw [if_neg e1,if_neg e2,if_neg e3,if_pos e4]
      rw [this];unfold ctr;rw [if_neg n2,if_neg n6,if_pos rfl,e4]
     ·have:ctr mt b y x=b x:=by unfold ctr;rw [if_neg e1,if_neg e2,if_neg e3,if_neg e4]
      rw [this]
      have k1:b x≠y:=fun e=>e3 (by rw [←e,hi.jj x hx])
      have k2:b x≠mt y:=fun e=>e4 (by rw [←e,hi.jj x hx])
      have k3:b x≠b y:=fun e=>e1 (by have:=congrArg b e;rwa [hi.jj x hx,hi.jj y hy] at this)
      have k4:b x≠b (mt y):=fun e=>e2 (by have:=congrArg b e;rwa [hi.jj x hx,hi.jj _ z1] at this)
      unfold ctr;rw [if_neg k1,if_neg k2,if_neg k3,if_neg k4,hi.jj x hx]
 ·unfold ctr
  split
  ·rename_i e;rw [e];exact n1
  ·split
   ·rename_i e;rw [e];exact n1.symm
   ·split
    ·rename_i e;rw [e];exact n5
    ·split
     ·rename_i e;rw [e];exact n5.symm
     ·exact hi.jf x hx
theorem y44 {u v:Int} (h:Cir mt (ctr mt b y) u v) (hu:InR n u):Cir mt b u v:=by
 obtain ⟨z1,p1,q1,n1,n2,n3,n4,n5,n6⟩:=ye1 hi hy hne
 have hi2:=ynu hi hy hne
 have hyz:Cir mt b y (mt y):= .mate (.refl y)
 have hpq:Cir mt b (b y) (b (mt y)):=by
  have h1:Cir mt b (b y) (b (b y)):= .join (.refl _)
  rw [hi.jj y hy] at h1
  exact .join (.mate h1)
 induction h with
 |refl=>exact .refl _
 |mate _ ih=>exact .mate ih
 | @join w hw ih=>
   have hwr:=hw.rng hi2 hu
   refine ih.trans ?_
   unfold ctr
   split
   ·rename_i e;rw [e];exact hyz
   ·split
    ·rename_i e;rw [e];exact hyz.symm hi hy
    ·split
     ·rename_i e;rw [e];exact hpq
     ·split
      ·rename_i e;rw [e];exact hpq.symm hi p1
      ·exact .join (.refl _)
theorem y45 {v:Int} (h:Cir mt (ctr mt b y) y v):v=y\/v=mt y:=by
 obtain ⟨z1,p1,q1,n1,n2,n3,n4,n5,n6⟩:=ye1 hi hy hne
 induction h with
 |refl=>exact .inl rfl
 |mate _ ih=>
  rcases ih with e|e
  ·exact .inr (by rw [e])
  ·exact .inl (by rw [e,hi.mm y hy])
 |join _ ih=>
  rcases ih with e|e
  ·rw [e];unfold ctr;rw [if_pos rfl];exact .inr rfl
  ·rw [e];unfold ctr;rw [if_neg n1,if_pos rfl];exact .inl rfl
theorem y46:ncl n mt (ctr mt b y)=ncl n mt b+1:=by
 obtain ⟨z1,p1,q1,n1,n2,n3,n4,n5,n6⟩:=ye1 hi hy hne
 have hi2:=ynu hi hy hne
 have hR:=yhx hi2
 have hB:=yhx hi
 unfold ncl
 generalize crN mt (ctr mt b y) (4*n) (4*n)=R at*
 have nat: ∀x,InR n x->x.toNat<4*n/\(x.toNat:Int)=x:=fun x hx=>by unfold InR at hx;omega
 obtain ⟨yl,ye⟩:=nat y hy
 obtain ⟨pl,pe⟩:=nat _ p1
 obtain ⟨zl,ze⟩:=nat _ z1
 obtain ⟨ql,qe⟩:=nat _ q1
 have hyp:Cir mt b y (b y):= .join (.refl y)
 have hnr:R.getD y.toNat 0≠R.getD (b y).toNat 0:=fun e=>by
  have:=(hR.iff _ _ yl pl).1 e
  rw [ye,pe] at this
  rcases y45 hi hy hne this with e1|e1
  ·exact n2 e1
  ·exact n6 e1
 have hst: ∀u v:Nat,u<4*n->v<4*n->Cir mt (ctr mt b y) u v->R.getD u 0=R.getD v 0:=fun u v hu hv h=>(hR.iff u v hu hv).2 h
 have hJ:CirR n mt b (yat R y.toNat (b y).toNat):=by
  refine CirR.of hi (ye0 hR.rep yl pl) ?_ (fun x hx=>?_) (fun x hx=>?_)
  ·refine ygj hi hR.rep (fun u v hu hv e=>y44 hi hy hne ((hR.iff u v hu hv).1 e) (by unfold InR;omega)) yl pl ?_
   rw [ye,pe];exact hyp
  ·have hxr:InR n (x:Int):=by unfold InR;omega
   obtain ⟨ml,me⟩:=nat _ (hi.mr _ hxr)
   refine ybc hR.rep.len ml hx (hst _ _ ml hx ?_)
   rw [me]
   have h1:Cir mt (ctr mt b y) (mt x) (mt (mt x)):= .mate (.refl _)
   rwa [hi.mm _ hxr] at h1
  ·have hxr:InR n (x:Int):=by unfold InR;omega
   obtain ⟨bl,be⟩:=nat _ (hi.jr _ hxr)
   have step: ∀w:Int,InR n w-> ∀wl:w.toNat<4*n,R.getD (ctr mt b y w).toNat 0=R.getD w.toNat 0:=fun w hw wl=>by
    obtain ⟨cl,ce⟩:=nat _ (hi2.jr w hw)
    obtain ⟨_,we⟩:=nat w hw
    refine hst _ _ cl wl ?_
    rw [ce,we]
    have h1:Cir mt (ctr mt b y) (ctr mt b y w) (ctr mt b y (ctr mt b y w)):= .join (.refl _)
    rwa [hi2.jj w hw] at h1
   have hyz:R.getD (mt y).toNat 0=R.getD y.toNat 0:=by
    have:=step y hy yl
    unfold ctr at this;rwa [if_pos rfl] at this
   have hpq:R.getD (b (mt y)).toNat 0=R.getD (b y).toNat 0:=by
    have:=step (b y) p1 pl
    unfold ctr at this;rwa [if_neg n2,if_neg n6,if_pos rfl] at this
   have hj:=yd4 hR.rep.len yl pl
   by_cases e1:(x:Int)=y
   ·have ex:x=y.toNat:=by omega
    rw [e1,ex];exact hj.symm
   ·by_cases e2:(x:Int)=mt y
    ·have ex:x=(mt y).toNat:=by omega
     rw [e2,ex]
     exact (ybc hR.rep.len ql pl hpq).trans (hj.symm.trans (ybc hR.rep.len yl zl hyz.symm))
    ·by_cases e3:(x:Int)=b y
     ·have ex:x=(b y).toNat:=by omega
      rw [e3,hi.jj y hy,ex];exact hj
     ·by_cases e4:(x:Int)=b (mt y)
      ·have ex:x=(b (mt y)).toNat:=by omega
       rw [e4,hi.jj _ z1,ex]
       exact ((ybc hR.rep.len zl yl hyz).trans hj).trans (ybc hR.rep.len pl ql hpq.symm)
      ·have h1:=step x hxr (by omega)
       have h2:ctr mt b y x=b x:=by unfold ctr;rw [if_neg e1,if_neg e2,if_neg e3,if_neg e4]
       rw [h2] at h1
       have:=ybc (g:=y.toNat) (h:=(b y).toNat) hR.rep.len bl (show (x:Int).toNat<4*n by omega) h1
       simpa using this
 rw [ykr hR.rep yl pl hnr,yhw hJ hB]
end
end Go.Proofs.YtphjphpmfflfpaaDoor
set_option linter.unusedSimpArgs false
set_option linter.unusedVariables false
namespace Go.Proofs.YtphjphpmfflfpaaDoor
structure Nod (W:Nat) (arc:Nat->Nat) (glue:Nat->Int):Prop where
 ar: ∀x,x<W->arc x<W
 aa: ∀x,x<W->arc (arc x)=x
 af: ∀x,x<W->arc x≠x
 gr: ∀x,x<W->0<=glue x->glue x<W
 gg: ∀x,x<W->0<=glue x->glue (glue x).toNat=x
 gf: ∀x,x<W->glue x≠x
def pthN (arc:Nat->Nat) (glue:Nat->Int):Nat->List Bool->Nat->List Bool×Nat
 |0,sn,y=>(sn,y)
 |f+1,sn,y=>if 0<=glue y then pthN arc glue f ((sn.set y true).set (glue y).toNat true) (arc (glue y).toNat) else (sn,y)
def cycN (arc:Nat->Nat) (glue:Nat->Int):Nat->List Bool->Nat->List Bool
 |0,sn,_=>sn
 |f+1,sn,z=>if sn.getD z false then sn else cycN arc glue f ((sn.set z true).set (glue z).toNat true) (arc (glue z).toNat)
def endN (W:Nat) (arc:Nat->Nat) (glue:Nat->Int):Nat->List Bool
 |0=>List.replicate W false
 |k+1=>if 0<=glue k then endN W arc glue k else (pthN arc glue (W+1) (endN W arc glue k) (arc k)).1
def cirN (W:Nat) (arc:Nat->Nat) (glue:Nat->Int) (sn0:List Bool):Nat->List Bool×Nat
 |0=>(sn0,0)
 |k+1=>let r:=cirN W arc glue sn0 k
  if glue k<0\/r.1.getD k false=true then r else (cycN arc glue (W+1) r.1 k,r.2+1)
end Go.Proofs.YtphjphpmfflfpaaDoor
set_option linter.unusedSimpArgs false
set_option linter.unusedVariables false
namespace Go.Proofs.YtphjphpmfflfpaaDoor
inductive Pth (arc:Nat->Nat) (glue:Nat->Int):Nat->List Nat->Nat->Prop
 |nil {u:Nat} (h:glue (arc u)<0):Pth arc glue u [] (arc u)
 |cons {u e:Nat} {ys:List Nat} (h:0<=glue (arc u)) (k:Pth arc glue (glue (arc u)).toNat ys e):Pth arc glue u (arc u::ys) e
def setP (glue:Nat->Int) (sn:List Bool) (y:Nat):List Bool:=(sn.set y true).set (glue y).toNat true
theorem yed {arc:Nat->Nat} {glue:Nat->Int} {u e:Nat} {ys:List Nat} (h:Pth arc glue u ys e): ∀(f:Nat) (sn:List Bool),ys.length<f->pthN arc glue f sn (arc u)=(ys.foldl (setP glue) sn,e):=by
 induction h with
 |nil h=>
  intro f sn hf
  obtain ⟨f,rfl⟩: ∃f',f=f'+1:=⟨f-1,by omega⟩
  simp only [pthN,List.foldl_nil]
  rw [if_neg (by omega)]
 |cons h k ih=>
  intro f sn hf
  simp only [List.length_cons] at hf
  obtain ⟨f,rfl⟩: ∃f',f=f'+1:=⟨f-1,by omega⟩
  simp only [pthN,List.foldl_cons]
  rw [if_pos h]
  exact ih f _ (by omega)
theorem yqu {sn:List Bool} {y:Nat} (h:sn.getD y false=true):sn.set y true=sn:=by
 apply List.ext_getElem?
 intro i
 rw [List.getElem?_set]
 by_cases e:y=i
 ·subst e
  rw [if_pos rfl]
  rw [List.getD_eq_getElem?_getD] at h
  cases hq:sn[y]? with
  |none=>rw [hq] at h;simp at h
  |some v=>rw [hq] at h;simp at h;subst h;rw [if_pos (List.getElem?_eq_some_iff.1 hq).1]
 ·rw [if_neg e]
theorem yov {glue:Nat->Int}: ∀(ys:List Nat) (sn:List Bool),(∀y∈ys,sn.getD y false=true/\sn.getD (glue y).toNat false=true)->ys.foldl (setP glue) sn=sn
 |[],_,_=>rfl
 |y::ys,sn,h=>by
  obtain ⟨h1,h2⟩:=h y (List.mem_cons_self ..)
  rw [List.foldl_cons,show setP glue sn y=sn by unfold setP;rw [yqu h1,yqu h2]]
  exact yov ys sn fun z hz=>h z (List.mem_cons_of_mem _ hz)
theorem yiu (l:List Bool) (i j:Nat) (hi:i<l.length):(l.set i true).getD j false=if i=j then true else l.getD j false:=by
 by_cases e:i=j
 ·subst e;rw [if_pos rfl];simp [List.getD_eq_getElem?_getD,hi]
 ·rw [if_neg e];simp [List.getD_eq_getElem?_getD,List.getElem?_set,e]
theorem yk8 {glue:Nat->Int} {sn:List Bool} {y:Nat} (hy:y<sn.length) (hz:(glue y).toNat<sn.length) (j:Nat):(setP glue sn y).getD j false=if j=y\/j=(glue y).toNat then true else sn.getD j false:=by
 unfold setP
 rw [yiu _ _ _ (by simpa using hz),yiu _ _ _ hy]
 by_cases e1:(glue y).toNat=j
 ·rw [if_pos e1,if_pos (.inr e1.symm)]
 ·rw [if_neg e1]
  by_cases e2:y=j
  ·rw [if_pos e2,if_pos (.inl e2.symm)]
  ·rw [if_neg e2,if_neg (by rintro (g|g)<;>omega)]
theorem yhy (glue:Nat->Int) (sn:List Bool) (y:Nat):(setP glue sn y).length=sn.length:=by simp [setP]
theorem yhz: ∀(l:List Bool) (i:Nat),l.getD i false=false->i<l.length->(l.set i true).count true=l.count true+1
 |[],i,_,h=>by simp at h
 |x::l,0,h,_=>by
  simp only [List.getD_cons_zero] at h
  subst h;simp
 |x::l,i+1,h,hl=>by
  have ih:=yhz l i (by simpa using h) (by simpa using hl)
  simp only [List.set_cons_succ,List.count_cons,ih];omega
theorem yh0 {glue:Nat->Int} {sn:List Bool} {y:Nat} (hy:y<sn.length) (hz:(glue y).toNat<sn.length) (hne:(glue y).toNat≠y) (h1:sn.getD y false=false) (h2:sn.getD (glue y).toNat false=false):(setP glue sn y).count true=sn.count true+2:=by
 unfold setP
 rw [yhz _ _ (by rw [yiu _ _ _ hy,if_neg (fun e=>hne e.symm)];exact h2) (by simpa using hz),yhz _ _ h1 hy]
structure Emb (n W:Nat) (mt b0:Int->Int) (arc:Nat->Nat) (glue:Nat->Int) (hv:Nat->Int):Prop where
 nod:Nod W arc glue
 inv:Inv2 n mt b0
 inj: ∀x y,x<W->y<W->hv x=hv y->x=y
 rng: ∀x,x<W->InR n (hv x)
 mtg: ∀x,x<W->0<=glue x->mt (hv x)=hv (glue x).toNat
 ba: ∀x,x<W->b0 (hv x)=hv (arc x)
structure Pst (n W:Nat) (mt b0:Int->Int) (arc:Nat->Nat) (glue:Nat->Int) (hv:Nat->Int) (b:Int->Int) (sn:List Bool) (c:Nat) (ex dn:Nat->Prop):Prop where
 inv:Inv2 n mt b
 off: ∀h,InR n h->(∀x,x<W->h≠hv x)->b h=b0 h
 sl:sn.length=W
 seen: ∀x,x<W->sn.getD x false=true->0<=glue x/\sn.getD (glue x).toNat false=true/\b (hv x)=hv (glue x).toNat
 org: ∀x,x<W->sn.getD x false=false-> ¬ex x-> ¬dn x->b (hv x)=hv (arc x)
 dne: ∀u,dn u->u<W/\glue u<0/\ ∃ys e,Pth arc glue u ys e/\ys.length<=W/\dn e/\b (hv u)=hv e/\ ∀y∈ys,sn.getD y false=true/\sn.getD (glue y).toNat false=true
 cnt:2*ncl n mt b+2*c=2*ncl n mt b0+sn.count true
section
variable {n W:Nat} {mt b0:Int->Int} {arc:Nat->Nat} {glue:Nat->Int} {hv:Nat->Int} (E:Emb n W mt b0 arc glue hv)
include E
theorem Emb.gW {x:Nat} (hx:x<W) (hg:0<=glue x):(glue x).toNat<W/\((glue x).toNat:Int)=glue x/\glue (glue x).toNat=x/\(glue x).toNat≠x:=by
 have h1:=E.nod.gr x hx hg
 have h2:=E.nod.gf x hx
 exact ⟨by omega,by omega,E.nod.gg x hx hg,by omega⟩
theorem Pst.step {b:Int->Int} {sn:List Bool} {c x y:Nat} {dn:Nat->Prop} (h:Pst n W mt b0 arc glue hv b sn c (fun u=>u=x\/u=y) dn) (hx:x<W) (hy:y<W) (hxy:b (hv y)=hv x) (hg:0<=glue y) (hys:sn.getD y false=false) (hxz:x≠(glue y).toNat) (hxs:sn.getD x false=false) (hdx: ¬dn x):
  Pst n W mt b0 arc glue hv (ctr mt b (hv y)) (setP glue sn y) c (fun u=>u=x\/u=arc (glue y).toNat) dn/\ctr mt b (hv y) (hv x)=hv (arc (glue y).toNat)/\arc (glue y).toNat≠x/\ctr mt b (hv y) (hv (arc (glue y).toNat))=hv x:=by
 obtain ⟨zW,ze,zg,zy⟩:=E.gW hy hg
 have hmy:=E.mtg y hy hg
 have hxy':b (hv x)=hv y:=by have:=congrArg b hxy;rw [h.inv.jj _ (E.rng y hy)] at this;exact this.symm
 have hxney:x≠y:=fun e=>h.inv.jf _ (E.rng y hy) (by rw [hxy,e])
 have hzs:sn.getD (glue y).toNat false=false:=by
  cases hz:sn.getD (glue y).toNat false with
  |false=>rfl
  |true=>
   have:=(h.seen _ zW hz).2.1
   rw [zg] at this
   simp only [Int.toNat_natCast] at this
   rw [this] at hys;cases hys
 have hzd: ¬dn (glue y).toNat:=fun hd=>by have:=(h.dne _ hd).2.1;rw [zg] at this;omega
 have hbz:b (hv (glue y).toNat)=hv (arc (glue y).toNat):=h.org _ zW hzs (by rintro (e|e)<;>omega) hzd
 have aW:=E.nod.ar _ zW
 have hne:b (hv y)≠mt (hv y):=by rw [hxy,hmy];intro e;exact hxz (E.inj _ _ hx zW e)
 obtain ⟨f1,f2,f3,f4,f5,f6,f7,f8,f9⟩:=ye1 h.inv (E.rng y hy) hne
 rw [hmy,hbz,hxy] at f8
 rw [hmy,hbz] at f7
 have hax:arc (glue y).toNat≠x:=fun e=>f8 (by rw [e])
 have hay:arc (glue y).toNat≠y:=fun e=>f7 (by rw [e])
 have haz:arc (glue y).toNat≠(glue y).toNat:=E.nod.af _ zW
 have inj:=fun u v hu hv'=>fun e=>E.inj u v hu hv' e
 have val: ∀u,u<W->ctr mt b (hv y) (hv u)=if u=y then hv (glue y).toNat else if u=(glue y).toNat then hv y else if u=x then hv (arc (glue y).toNat) else if u=arc (glue y).toNat then hv x else b (hv u):=fun u hu=>by
  unfold ctr
  rw [hmy,hxy,hbz]
  by_cases e1:u=y
  ·rw [if_pos e1,if_pos (by rw [e1])]
  ·rw [if_neg e1,if_neg (fun e=>e1 (E.inj _ _ hu hy e))]
   by_cases e2:u=(glue y).toNat
   ·rw [if_pos e2,if_pos (by rw [←e2])]
   ·rw [if_neg e2,if_neg (fun e=>e2 (E.inj _ _ hu zW e))]
    by_cases e3:u=x
    ·rw [if_pos e3,if_pos (by rw [e3])]
    ·rw [if_neg e3,if_neg (fun e=>e3 (E.inj _ _ hu hx e))]
     by_cases e4:u=arc (glue y).toNat
     ·rw [if_pos e4,if_pos (by rw [←e4])]
     ·rw [if_neg e4,if_neg (fun e=>e4 (E.inj _ _ hu aW e))]
 have yl:y<sn.length:=by rw [h.sl];exact hy
 have zl:(glue y).toNat<sn.length:=by rw [h.sl];exact zW
 have sg:=fun j=>yk8 (glue:=glue) yl zl j
 have has:sn.getD (arc (glue y).toNat) false=false:=by
  cases hq:sn.getD (arc (glue y).toNat) false with
  |false=>rfl
  |true=>
   obtain ⟨g1,_,g3⟩:=h.seen _ aW hq
   have h1:b (hv (arc (glue y).toNat))=hv (glue y).toNat:=by rw [←hbz,h.inv.jj _ (E.rng _ zW)]
   rw [g3] at h1
   have h2:=E.inj _ _ (E.gW aW g1).1 zW h1
   have h3:=E.nod.gg _ aW g1
   rw [h2,zg] at h3
   exact absurd (show y=arc (glue y).toNat by omega).symm hay
 refine ⟨⟨ynu h.inv (E.rng y hy) hne,fun q hq hn=>?_,by rw [yhy];exact h.sl,fun u hu hs=>?_,fun u hu hs hex hd=>?_,fun u hd=>?_,?_⟩,?_,hax,?_⟩
 ·have:ctr mt b (hv y) q=b q:=by
   unfold ctr
   rw [hmy,hxy,hbz,if_neg (hn y hy),if_neg (hn _ zW),if_neg (hn x hx),if_neg (hn _ aW)]
  rw [this];exact h.off q hq hn
 ·rw [sg] at hs
  rw [val u hu]
  by_cases e1:u=y
  ·rw [if_pos e1,e1];exact ⟨hg,by rw [sg,if_pos (.inr rfl)],rfl⟩
  ·by_cases e2:u=(glue y).toNat
   ·rw [if_neg e1,if_pos e2,e2,zg];exact ⟨by omega,by rw [sg,if_pos (.inl (by omega))],by simp⟩
   ·rw [if_neg (by rintro (g|g)<;>omega)] at hs
    obtain ⟨g1,g2,g3⟩:=h.seen u hu hs
    refine ⟨g1,by rw [sg];split<;>first|rfl|exact g2,?_⟩
    rw [if_neg e1,if_neg e2,if_neg (fun e=>by rw [e,hxs] at hs;cases hs),if_neg (fun e=>by rw [e,has] at hs;cases hs)]
    exact g3
 ·rw [sg] at hs
  by_cases e1:u=y\/u=(glue y).toNat
  ·rw [if_pos e1] at hs;cases hs
  ·rw [if_neg e1] at hs
   rw [val u hu,if_neg (fun e=>e1 (.inl e)),if_neg (fun e=>e1 (.inr e)),if_neg (fun e=>hex (.inl e)),if_neg (fun e=>hex (.inr e))]
   exact h.org u hu hs (by rintro (e|e);exact hex (.inl e);exact e1 (.inl e)) hd
 ·obtain ⟨g1,g2,ys,e,g3,g4,g5,g6,g7⟩:=h.dne u hd
  refine ⟨g1,g2,ys,e,g3,g4,g5,?_,fun w hw=>?_⟩
  ·have k1:u≠y:=fun e=>by rw [e] at g2;omega
   have k2:u≠(glue y).toNat:=fun e=>by rw [e,zg] at g2;omega
   have k3:u≠x:=fun e=>hdx (e▸hd)
   have k4:u≠arc (glue y).toNat:=fun e2=>by
    have h1:b (hv (arc (glue y).toNat))=hv (glue y).toNat:=by rw [←hbz,h.inv.jj _ (E.rng _ zW)]
    rw [←e2,g6] at h1
    have:=E.inj _ _ (h.dne e g5).1 zW h1
    exact hzd (this▸g5)
   rw [val u g1,if_neg k1,if_neg k2,if_neg k3,if_neg k4];exact g6
  ·obtain ⟨q1,q2⟩:=g7 w hw
   exact ⟨by rw [sg];split<;>first|rfl|exact q1,by rw [sg];split<;>first|rfl|exact q2⟩
 ·have h1:=y46 h.inv (E.rng y hy) hne
  have h2:=yh0 yl zl zy hys hzs
  have:=h.cnt
  omega
 ·rw [val x hx,if_neg hxney,if_neg hxz,if_pos rfl]
 ·rw [val _ aW,if_neg hay,if_neg haz,if_neg hax,if_pos rfl]
end
end Go.Proofs.YtphjphpmfflfpaaDoor
set_option linter.unusedSimpArgs false
set_option linter.unusedVariables false
namespace Go.Proofs.YtphjphpmfflfpaaDoor
inductive Cyc (arc:Nat->Nat) (glue:Nat->Int):List Bool->Nat->List Nat->Prop
 |stop {sn:List Bool} {z:Nat} (h:sn.getD z false=true):Cyc arc glue sn z []
 |step {sn:List Bool} {z:Nat} {zs:List Nat} (h:sn.getD z false=false) (hg:0<=glue z) (k:Cyc arc glue (setP glue sn z) (arc (glue z).toNat) zs):Cyc arc glue sn z (z::zs)
theorem yqv {arc:Nat->Nat} {glue:Nat->Int} {sn:List Bool} {z:Nat} {zs:List Nat} (h:Cyc arc glue sn z zs): ∀f:Nat,zs.length<f->cycN arc glue f sn z=zs.foldl (setP glue) sn:=by
 induction h with
 |stop h=>
  intro f hf
  obtain ⟨f,rfl⟩: ∃f',f=f'+1:=⟨f-1,by omega⟩
  simp only [cycN,List.foldl_nil,h,if_true]
 |step h hg k ih=>
  intro f hf
  simp only [List.length_cons] at hf
  obtain ⟨f,rfl⟩: ∃f',f=f'+1:=⟨f-1,by omega⟩
  simp only [cycN,List.foldl_cons,h,Bool.false_eq_true,if_false]
  exact ih f (by omega)
def txN (arc:Nat->Nat) (glue index:Nat->Int) (W E:Nat):Nat->List Int
 |0=>List.replicate E 0
 |k+1=>if index k<0 then txN arc glue index W E k else (txN arc glue index W E k).set (index k).toNat (97+index (pthN arc glue (W+1) [] (arc k)).2)
theorem yee (arc:Nat->Nat) (glue index:Nat->Int) (W E:Nat): ∀k,(txN arc glue index W E k).length=E
 |0=>by simp [txN]
 |k+1=>by
  simp only [txN]
  split
  ·exact yee arc glue index W E k
  ·rw [List.length_set];exact yee arc glue index W E k
theorem yqw (arc:Nat->Nat) (glue:Nat->Int): ∀(f:Nat) (sn:List Bool) (y:Nat),(pthN arc glue f sn y).1.length=sn.length
 |0,_,_=>rfl
 |f+1,sn,y=>by
  simp only [pthN]
  split
  ·rw [yqw arc glue f];simp
  ·rfl
theorem yh1 (W:Nat) (arc:Nat->Nat) (glue:Nat->Int): ∀k,(endN W arc glue k).length=W
 |0=>by simp [endN]
 |k+1=>by
  simp only [endN]
  split
  ·exact yh1 W arc glue k
  ·rw [yqw];exact yh1 W arc glue k
theorem yqx (arc:Nat->Nat) (glue:Nat->Int): ∀(f:Nat) (sn:List Bool) (z:Nat),(cycN arc glue f sn z).length=sn.length
 |0,_,_=>rfl
 |f+1,sn,z=>by
  simp only [cycN]
  split
  ·rfl
  ·rw [yqx arc glue f];simp
theorem yh2 (W:Nat) (arc:Nat->Nat) (glue:Nat->Int) (sn0:List Bool): ∀k,(cirN W arc glue sn0 k).1.length=sn0.length
 |0=>rfl
 |k+1=>by
  simp only [cirN]
  split
  ·exact yh2 W arc glue sn0 k
  ·rw [yqx];exact yh2 W arc glue sn0 k
theorem ynv (W:Nat) (arc:Nat->Nat) (glue:Nat->Int) (sn0:List Bool): ∀k,(cirN W arc glue sn0 k).2<=k
 |0=>Nat.le_refl _
 |k+1=>by
  have:=ynv W arc glue sn0 k
  simp only [cirN]
  split<;>omega
end Go.Proofs.YtphjphpmfflfpaaDoor
set_option linter.unusedSimpArgs false
set_option linter.unusedVariables false
namespace Go.Proofs.YtphjphpmfflfpaaDoor
open Go Go.RowKit
theorem y47 {x:AV} (H:Hp) (n:Nat) (h:p1 x=true):snap H (n+1) x=x:=by cases x<;>first|rfl|cases h
theorem y1m {x:AV} (H:Hp) (n:Nat) (h:p1 x=true):yam H (n+1) x:=by cases x<;>first|trivial|cases h
theorem y7b {x:AV} (H:Hp) (n:Nat) (h:p1 x=true):frzV H (n+1) x=x:=by cases x<;>first|rfl|cases h
theorem y48 {x:AV} (H:Hp) (n:Nat) (h:p1 x=true):frzP H (n+1) x:=by cases x<;>first|trivial|cases h
section
variable {c:List AV} (h:c.all p1=true)
include h
theorem y49 (H:Hp) (n:Nat):c.map (snap H (n+1))=c:=by
 conv=>rhs;rw [←List.map_id c]
 exact List.map_congr_left fun x hx=>y47 H n (List.all_eq_true.1 h x hx)
theorem y1n (H:Hp) (n:Nat):(∀x∈c,yam H (n+1) x)=True:=eq_true fun x hx=>y1m H n (List.all_eq_true.1 h x hx)
theorem yx5 (H:Hp) (n:Nat):c.map (frzV H (n+1))=c:=by
 conv=>rhs;rw [←List.map_id c]
 exact List.map_congr_left fun x hx=>y7b H n (List.all_eq_true.1 h x hx)
theorem yty (H:Hp) (n:Nat):(∀x∈c,frzP H (n+1) x)=True:=eq_true fun x hx=>y48 H n (List.all_eq_true.1 h x hx)
end
end Go.Proofs.YtphjphpmfflfpaaDoor
namespace Go.Proofs.YtphjphpmfflfpaaDoor
open Go Go.RowKit
def swI (i j n:Nat):Nat:=if n=i then j else if n=j then i else n
theorem ydx (i j n:Nat):swI i j (swI i j n)=n:=by
 unfold swI
 by_cases h1:n=i
 ·rw [if_pos h1]
  by_cases h2:j=i
  ·rw [if_pos h2];omega
  ·rw [if_neg h2,if_pos rfl];omega
 ·rw [if_neg h1]
  by_cases h2:n=j
  ·rw [if_pos h2,if_pos rfl];omega
  ·rw [if_neg h2,if_neg h1,if_neg h2]
def swV (i j:Nat):Nat->AV->AV
 |0,x=>if p1 x then x else .any
 |n+1,x=>match x with
  | .sl es id off len=> .sl es (swI i j id) off len
  | .ptr id off=> .ptr (swI i j id) off
  | .mp id=> .mp (swI i j id)
  | .agg xs=> .agg (xs.map (swV i j n))
  | .tup xs=> .tup (xs.map (swV i j n))
  | .fn f xs=> .fn f (xs.map (swV i j n))
  |x=>x
def swO (i j:Nat):AObj->AObj
 | .cells t (.lst l)=> .cells t (.lst (l.map (swV i j 4)))
 | .imap t l=> .imap t (l.map fun q=>(q.1,swV i j 4 q.2))
 | .gmap t ck l=> .gmap t ck (l.map fun q=>(q.1,q.2.1,swV i j 4 q.2.2))
 | .iter m s sn la=> .iter (swI i j m) s sn la
 |o=>o
def swH (i j:Nat):Hp->Hp
 |[]=>[]
 |(k,o)::r=>(swI i j k,swO i j o)::swH i j r
def swF (i j:Nat):Fr->Fr
 |[]=>[]
 |(t,x)::r=>(t,swV i j 4 x)::swF i j r
theorem yh3 (i j:Nat): ∀(H:Hp) (k:Nat),hget (swH i j H) (swI i j k)=(hget H k).map (swO i j)
 |[],k=>rfl
 |(n,o)::r,k=>by
  simp only [swH,hget]
  by_cases e:n=k
  ·subst e;simp
  ·have: ¬swI i j n=swI i j k:=fun h=>e (by have:=congrArg (swI i j) h;rwa [ydx,ydx] at this)
   rw [if_neg this,if_neg e];exact yh3 i j r k
theorem yow (i j:Nat) (H:Hp) (k:Nat):hget (swH i j H) k=(hget H (swI i j k)).map (swO i j):=by
 have:=yh3 i j H (swI i j k);rwa [ydx] at this
theorem yk9 (i j:Nat): ∀(fr:Fr) (t:Nat),fget (swF i j fr) t=swV i j 4 (fget fr t)
 |[],t=>rfl
 |(s,x)::r,t=>by
  simp only [swF,fget]
  split
  ·rfl
  ·exact yk9 i j r t
theorem yf2 (i j:Nat) (o:AObj):(swO i j o).live=o.live:=by unfold swO;split<;>rfl
theorem y2x {w:World} {M:Nat->Prop} {ρ ρ':Nat->Addr} {D D':Nat->Prop} {i j:Nat} (hD: ∀k,D k->D' (swI i j k)/\ρ' (swI i j k)=ρ k): ∀(n:Nat) (v:Value) (x:AV),VR w M ρ D v x->VR w M ρ' D' v (swV i j n x):=by
 intro n
 induction n with
 |zero=>
  intro v x hv
  simp only [swV]
  split
  ·rename_i hp;exact hv.pure1 hp
  ·exact .any _
 |succ n ih=>
  intro v x hv
  cases hv with
  |any v=>exact .any _
  |int k m=>exact .int _ _
  |bool b=>exact .bool _
  |str s=>exact .str _
  |nils=>exact .nils
  |mp id hd=>obtain ⟨h1,h2⟩:=hD id hd;simp only [swV];rw [←h2];exact .mp _ h1
  |ro es len c ad cap x hl hc he h0 hv=>exact VR.pure1 (VR.ro (D:=D) es len c ad cap x hl hc he h0 hv) rfl
  |rp c off b x hb hm hj hv=>exact VR.pure1 (VR.rp (D:=D) c off b x hb hm hj hv) rfl
  |ptr id off hd=>obtain ⟨h1,h2⟩:=hD id hd;simp only [swV];rw [←h2];exact .ptr _ _ h1
  |sl es id off len cap hd hc arr t ad ha hb hr=>
   obtain ⟨h1,h2⟩:=hD id hd
   exact .sl es (swI i j id) off len cap h1 hc arr t ad (fun h=>by rw [h2];exact ha h) (by rw [h2];exact hb) (by rw [h2];exact hr)
  |agg vs xs hl hx=>
   simp only [swV]
   refine .agg vs _ (by simp [hl]) fun k u y hu hy=>?_
   simp only [List.getElem?_map] at hy
   obtain ⟨y',g1,rfl⟩:=Option.map_eq_some_iff.1 hy
   exact ih u y' (hx k u y' hu g1)
  |tup vs xs hl hx=>
   simp only [swV]
   refine .tup vs _ (by simp [hl]) fun k u y hu hy=>?_
   simp only [List.getElem?_map] at hy
   obtain ⟨y',g1,rfl⟩:=Option.map_eq_some_iff.1 hy
   exact ih u y' (hx k u y' hu g1)
  |fn f vs xs hl hx=>
   simp only [swV]
   refine .fn f vs _ (by simp [hl]) fun k u y hu hy=>?_
   simp only [List.getElem?_map] at hy
   obtain ⟨y',g1,rfl⟩:=Option.map_eq_some_iff.1 hy
   exact ih u y' (hx k u y' hu g1)
theorem y5a {w:World} {M:Nat->Prop} {ρ ρ':Nat->Addr} {D D':Nat->Prop} {i j:Nat} (hD: ∀k,D k->D' (swI i j k)/\ρ' (swI i j k)=ρ k) {k:Nat} {o:AObj} (hi:D k) (h:ObjR w M ρ D k o):ObjR w M ρ' D' (swI i j k) (swO i j o):=by
 have hr:=y2x (w:=w) (M:=M) (ρ':=ρ') (D':=D') hD
 have he:=(hD k hi).2
 cases o with
 |gone=>trivial
 |cells t c=>
  obtain ⟨e1,arr,e2,e3,e4⟩:=h
  cases c with
  |ints l=>exact ⟨by rw [he];exact e1,arr,by rw [he];exact e2,by rw [he];exact e3,fun j hj=>let ⟨u,hu,hx⟩:=e4 j hj;⟨u,by rw [he];exact hu,hx.pure1 rfl⟩⟩
  |bools l=>exact ⟨by rw [he];exact e1,arr,by rw [he];exact e2,by rw [he];exact e3,fun j hj=>let ⟨u,hu,hx⟩:=e4 j hj;⟨u,by rw [he];exact hu,hx.pure1 rfl⟩⟩
  |lst l=>
   refine ⟨by rw [he];exact e1,arr,by rw [he];exact e2,by rw [he];simpa [swO,Cs.len] using e3,fun n hj=>?_⟩
   simp only [Cs.len,List.length_map] at hj
   obtain ⟨u,hu,hx⟩:=e4 n hj
   refine ⟨u,by rw [he];exact hu,?_⟩
   simp only [Cs.get,List.getD_eq_getElem?_getD,List.getElem?_eq_getElem hj,Option.getD_some] at hx
   have:=hr 4 u _ hx
   simpa [Cs.get,hj] using this
 |fmap t c=>
  obtain ⟨k0,es,ck,k1,k2⟩:=h
  exact ⟨k0,es,ck,by rw [he];exact k1,k2⟩
 |gmap t ck l=>
  obtain ⟨es,k1,k2,k3⟩:=h
  refine ⟨es,by rw [he];exact k1,by simpa using k2,fun j e q h1 h2=>?_⟩
  simp only [List.getElem?_map] at h2
  obtain ⟨q',g1,g2⟩:=Option.map_eq_some_iff.1 h2
  cases g2
  obtain ⟨g3,g4,g5⟩:=k3 j e q' h1 g1
  exact ⟨g3,g4,hr 4 _ _ g5⟩
 |iter mid s sn la=>
  obtain ⟨k1,k2,k3⟩:=h
  obtain ⟨d1,d2⟩:=hD mid k1
  exact ⟨d1,by rw [he];exact k2,by rw [he,d2];exact k3⟩
 |imap t l=>
  obtain ⟨k0,es,ck,k1,k2,k3⟩:=h
  refine ⟨fun k x hx=>?_,es,ck,by rw [he];exact k1,by simpa using k2,fun j e k x h1 h2=>?_⟩
  ·obtain ⟨q,g1,g2⟩:=List.mem_map.1 hx
   cases g2
   have:=k0 q.1 q.2 g1
   cases hq:q.2<;>rw [hq] at this<;>first|(cases this;done)|rfl
  simp only [List.getElem?_map] at h2
  obtain ⟨q,g1,g2⟩:=Option.map_eq_some_iff.1 h2
  cases g2
  obtain ⟨g3,g4,g5⟩:=k3 j e q.1 q.2 h1 g1
  exact ⟨g3,hr 4 _ _ g4,g5⟩
section
variable {B:Nat} {w0:ybd} {Mx:Nat->Prop} {N:Nat} {w:World} {ρ:Nat->Addr} {fr:Fr} {H:Hp} {a:Act}
theorem Sim.swap (h:Sim B w0 Mx N w ρ fr H a) (i j:Nat):Sim B w0 Mx N w (fun k=>ρ (swI i j k)) (swF i j fr) (swH i j H) a:=by
 have hg: ∀k o,hget (swH i j H) k=some o-> ∃o',hget H (swI i j k)=some o'/\o=swO i j o':=fun k o hk=>by
  rw [yow] at hk
  obtain ⟨o',h1,h2⟩:=Option.map_eq_some_iff.1 hk
  exact ⟨o',h1,h2.symm⟩
 have hM:MM Mx (swH i j H) (fun k=>ρ (swI i j k))=MM Mx H ρ:=by
  funext b
  apply propext
  constructor
  ·rintro (g|⟨id,o,g1,g2,g3⟩)
   ·exact .inl g
   ·obtain ⟨o',k1,rfl⟩:=hg id o g1
    exact .inr ⟨_,o',k1,by rw [yf2] at g2;exact g2,g3⟩
  ·rintro (g|⟨id,o,g1,g2,g3⟩)
   ·exact .inl g
   ·exact .inr ⟨swI i j id,swO i j o,by rw [yh3,g1];rfl,by rw [yf2];exact g2,by show (ρ (swI i j (swI i j id))).block=b;rw [ydx];exact g3⟩
 have hD: ∀k,DD H k->DD (swH i j H) (swI i j k)/\(fun k=>ρ (swI i j k)) (swI i j k)=ρ k:=fun k ⟨o,ho⟩=>⟨⟨swO i j o,by rw [yh3,ho];rfl⟩,by show ρ (swI i j (swI i j k))=ρ k;rw [ydx]⟩
 refine ⟨h.below,h.hB,h.mx,fun id o ho hl=>?_,fun id o ho=>?_,fun id o id' o' ho hl ho' hl' e=>?_,fun t=>?_,h.defers,h.size⟩
 ·obtain ⟨o',k1,rfl⟩:=hg id o ho
  exact h.own _ o' k1 (by rw [yf2] at hl;exact hl)
 ·obtain ⟨o',k1,rfl⟩:=hg id o ho
  have:=y5a (w:=w) (M:=MM Mx H ρ) (ρ':=fun k=>ρ (swI i j k)) hD ⟨o',k1⟩ (h.objs _ o' k1)
  rw [ydx] at this
  rw [hM];exact this
 ·obtain ⟨q,k1,rfl⟩:=hg id o ho
  obtain ⟨q',k1',rfl⟩:=hg id' o' ho'
  have:=h.inj _ q _ q' k1 (by rw [yf2] at hl;exact hl) k1' (by rw [yf2] at hl';exact hl') e
  have:=congrArg (swI i j) this
  rwa [ydx,ydx] at this
 ·rw [hM,yk9]
  exact y2x hD 4 _ _ (h.frv t)
end
theorem Wk.swap (i j:Nat) (fr:Fr) (H:Hp):Wk fr H (swF i j fr) (swH i j H):=fun _ _ _ _ _ ρ _ hs=>⟨fun k=>ρ (swI i j k),hs.swap i j⟩
theorem Wk.subS (i j:Nat) {fr fr' fr1:Fr} {H H' H1:Hp} (e1:swF i j fr'=fr1) (e2:swH i j H'=H1) (e3:swF i j fr1=fr') (e4:swH i j H1=H') (hf:subF fr H1 fr1) (hh:subH H H1 H1):Wk fr H fr' H':=by
 have:=(Wk.sub hf hh).trans (Wk.swap i j fr1 H1)
 rwa [e3,e4] at this
attribute [go_sem] swI swV swO swH swF
end Go.Proofs.YtphjphpmfflfpaaDoor
