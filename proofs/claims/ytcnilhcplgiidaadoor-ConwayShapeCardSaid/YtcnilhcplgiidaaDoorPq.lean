/- Plain: how many circles a state has, up to parity. -/
import Derived.Test.YtcnilhcplgiidaaDoorZm
import Derived.Test.YtcnilhcplgiidaaDoorZn
namespace Go.Proofs.YtcnilhcplgiidaaDoor
set_option linter.unusedSimpArgs false
set_option linter.unusedVariables false
open Classical
section
variable {m:List Int} {n:Nat} {σ:Nat->Bool} {s s':Nat->Nat} {c:Nat}
def jS (s:Nat->Nat) (x:Nat):Nat:=(st3 s (x:Int)).toNat
theorem yda (s:Nat->Nat) (x:Nat):((jS s x:Nat):Int)=st3 s x:=by
 have:=ye9 (s ((x:Int)/4).toNat) x
 unfold jS st3;omega
theorem ygh (s:Nat->Nat) (x:Nat):jS s x/4=x/4:=by
 have h1:=yda s x
 have h2:=ye9 (s ((x:Int)/4).toNat) x
 unfold st3 at h1;omega
theorem ygi (s:Nat->Nat) (x:Nat):jS s (jS s x)=x:=by
 have h1:=yda s (jS s x)
 rw [yda s x] at h1
 have h2:st3 s (st3 s (x:Int))=x:=by unfold st3;rw [ye9,ypt]
 omega
theorem y0k (h: ∀x,x≠c->s x=s' x) {x:Nat} (hx:x/4≠c):jS s x=jS s' x:=by
 have h1:=yda s x
 have h2:=yda s' x
 unfold st3 at h1 h2
 rw [h _ (by omega)] at h1;omega
theorem yze (x:Int):pr3 0 x≠pr3 1 x/\pr3 0 x≠pr3 2 x/\pr3 1 x≠pr3 2 x:=by
 have e:x=4*(x/4)\/x=4*(x/4)+1\/x=4*(x/4)+2\/x=4*(x/4)+3:=by omega
 obtain ⟨v1,v2,v3,v4,v5,v6,v7,v8,v9,v10,v11,v12⟩:=ynw (x/4)
 generalize x/4=c at*
 rcases e with rfl|rfl|rfl|rfl
 ·rw [v1,v5,v9];omega
 ·rw [v2,v6,v10];omega
 ·rw [v3,v7,v11];omega
 ·rw [v4,v8,v12];omega
theorem y0l (hs:s c<3) (hs':s' c<3) (hne:s c≠s' c) {x:Nat} (hx:x/4=c):jS s x≠jS s' x:=fun e=>by
 have h1:=yda s x
 have h2:=yda s' x
 unfold st3 at h1 h2
 rw [show ((x:Int)/4).toNat=c by omega] at h1 h2
 obtain ⟨d1,d2,d3⟩:=yze (x:Int)
 have e1:pr3 (s c) x=pr3 (s' c) x:=by omega
 have a:s c=0\/s c=1\/s c=2:=by omega
 have b:s' c=0\/s' c=1\/s' c=2:=by omega
 rcases a with a|a|a<;>rcases b with b|b|b<;>rw [a,b] at e1<;>first|exact d1 e1|exact d2 e1|exact d3 e1|exact d1 e1.symm|exact d2 e1.symm|exact d3 e1.symm|exact hne (a.trans b.symm)
structure Flp (m:List Int) (n:Nat) (σ:Nat->Bool) (s:Nat->Nat):Prop where
 mt: ∀x,x<4*n->σ (Sp.alD m x)= !σ x
 jn: ∀x,x<4*n->σ (jS s x)= !σ x
def pF (m:List Int) (σ:Nat->Bool) (s:Nat->Nat) (x:Nat):Nat:=if σ x then jS s (Sp.alD m x) else x
theorem yhr (hp:PmOk m n):Sp.Dia m n:=⟨⟨hp.ok,hp.inv⟩,hp.ne⟩
theorem ywz {x:Nat} (hx:x<4*n):jS s x<4*n:=by have:=ygh s x;omega
theorem yie (hp:PmOk m n) (h:Flp m n σ s):Sp.PermN (4*n) (pF m σ s):=by
 have hm:=(yhr hp).mat
 refine ⟨fun x hx=>?_,fun x y hx hy e=>?_⟩
 ·unfold pF;split
  ·exact ywz (hm.lt x hx)
  ·exact hx
 ·have col: ∀x,x<4*n->σ x=true->σ (jS s (Sp.alD m x))=true:=fun x hx e=>by rw [h.jn _ (hm.lt x hx),h.mt x hx,e];rfl
  unfold pF at e
  by_cases h1:σ x=true<;>by_cases h2:σ y=true
  ·rw [if_pos h1,if_pos h2] at e
   have:=congrArg (jS s) e
   rw [ygi,ygi] at this
   rw [←hm.inv x hx,this,hm.inv y hy]
  ·rw [if_pos h1,if_neg h2] at e
   exact absurd (e▸col x hx h1) h2
  ·rw [if_neg h1,if_pos h2] at e
   exact absurd (e▸col y hy h2) h1
  ·rw [if_neg h1,if_neg h2] at e;exact e
theorem yq6 (hp:PmOk m n) (h:Flp m n σ s) {x y:Nat} (hx:x<4*n) (hy:y<4*n) (cx:σ x=true):Sp.SC (pF m σ s) x y↔Cir (fun x=>m.getD x.toNat 0) (st3 s) x y/\σ y=true:=by
 have hD:=yhr hp
 have hm:=hD.mat
 have hP:=yie hp h
 have hi:=yc8 hp.ok hp.inv hp.ne s
 have cm: ∀z,z<4*n->m.getD z 0=(Sp.alD m z:Nat):=fun z hz=>(hD.cast hz).symm
 constructor
 ·rintro ⟨k,rfl⟩
  clear hy
  induction k with
  |zero=>exact ⟨.refl _,cx⟩
  |succ k ih=>
   have lt:=hP.itn_lt hx k
   simp only [Sp.itn]
   generalize Sp.itn (pF m σ s) k x=z at*
   obtain ⟨i1,i2⟩:=ih
   unfold pF
   rw [if_pos i2]
   refine ⟨?_,by rw [h.jn _ (hm.lt z lt),h.mt z lt,i2];rfl⟩
   have:=Cir.join (Cir.mate i1)
   simp only [Int.toNat_natCast] at this
   rw [cm z lt,←yda] at this;exact this
 ·rintro ⟨hc,cy⟩
  have key: ∀z:Int,Cir (fun x=>m.getD x.toNat 0) (st3 s) x z->InR n z/\(σ z.toNat=true->Sp.SC (pF m σ s) x z.toNat)/\(σ z.toNat=false->Sp.SC (pF m σ s) x (Sp.alD m z.toNat)):=fun z hz=>by
   induction hz with
   |refl=>exact ⟨by unfold InR;omega,fun _=>by simpa using Sp.SC.refl _ _,fun e=>by simp [cx] at e⟩
   | @mate z _ ih=>
     obtain ⟨r,i1,i2⟩:=ih
     refine ⟨hi.mr z r,?_⟩
     unfold InR at r
     have e:((fun x:Int=>m.getD x.toNat 0) z).toNat=Sp.alD m z.toNat:=rfl
     rw [e,h.mt _ (by omega),hm.inv _ (by omega)]
     exact ⟨fun e=>i2 (by simpa using e),fun e=>i1 (by simpa using e)⟩
   | @join z _ ih=>
     obtain ⟨r,i1,i2⟩:=ih
     refine ⟨hi.jr z r,?_⟩
     unfold InR at r
     have e:(st3 s z).toNat=jS s z.toNat:=by unfold jS;rw [show ((z.toNat:Nat):Int)=z by omega]
     rw [e,h.jn _ (by omega)]
     refine ⟨fun e=>?_,fun e=>?_⟩
     ·have cz:σ z.toNat=false:=by simpa using e
      have g:=i2 cz
      refine g.trans ⟨1,?_⟩
      simp only [Sp.itn]
      unfold pF
      rw [h.mt _ (by omega),cz,if_pos (by rfl),hm.inv _ (by omega)]
     ·have cz:σ z.toNat=true:=by simpa using e
      have lj:jS s z.toNat<4*n:=ywz (by omega)
      refine (i1 cz).trans (Sp.SC.symm hP (hm.lt _ lj) ⟨1,?_⟩)
      simp only [Sp.itn]
      unfold pF
      rw [h.mt _ lj,h.jn _ (by omega),cz,if_pos (by rfl),hm.inv _ lj,ygi]
  have:=(key y hc).2.1
  simp only [Int.toNat_natCast] at this
  exact this cy
theorem yn9 (hp:PmOk m n) (h:Flp m n σ s) {l:List Nat} (hl:Sp.Tr (4*n) (fun x=>σ x=true) (Sp.SC (pF m σ s)) l):l.length=cir3 m n s:=by
 have hD:=yhr hp
 have hm:=hD.mat
 have hP:=yie hp h
 have hi:=yc8 hp.ok hp.inv hp.ne s
 have hR:=ygd hp s
 unfold cir3
 generalize crN (fun x=>m.getD x.toNat 0) (st3 s) (4*n) (4*n)=R at*
 have cm: ∀z,z<4*n->m.getD z 0=(Sp.alD m z:Nat):=fun z hz=>(hD.cast hz).symm
 obtain ⟨u,hu⟩: ∃u:Nat->Nat,u=fun r=>if σ r then r else Sp.alD m r:=⟨_,rfl⟩
 have u1: ∀r,r<4*n->u r<4*n/\σ (u r)=true/\Cir (fun x=>m.getD x.toNat 0) (st3 s) r (u r):=fun r hr=>by
  rw [hu]
  by_cases e:σ r=true
  ·simp only [if_pos e];exact ⟨hr,e, .refl _⟩
  ·simp only [if_neg e]
   refine ⟨hm.lt r hr,by rw [h.mt r hr];simpa using e,?_⟩
   have:=Cir.mate (mt:=fun x=>m.getD x.toNat 0) (jn:=st3 s) (Cir.refl (r:Int))
   simp only [Int.toNat_natCast] at this
   rw [cm r hr] at this;exact this
 have hlen:=hR.rep.len
 have sy: ∀{a b:Nat},a<4*n->Cir (fun x=>m.getD x.toNat 0) (st3 s) a b->Cir (fun x=>m.getD x.toNat 0) (st3 s) b a:=fun ha e=>e.symm hi (by unfold InR;omega)
 have hf: ∀r,r∈(List.range (4*n)).filter (fun x=>R.getD x 0==(x:Int))↔r<4*n/\R.getD r 0=r:=fun r=>by simp [List.mem_filter]
 have uj: ∀a b,a<4*n->b<4*n->R.getD a 0=a->R.getD b 0=b->Cir (fun x=>m.getD x.toNat 0) (st3 s) (u a) (u b)->a=b:=fun a b ha hb ea eb e=>by
  have q:=(hR.iff a b ha hb).2 (((u1 a ha).2.2.trans e).trans (sy hb (u1 b hb).2.2))
  omega
 have hT:Sp.Tr (4*n) (fun x=>σ x=true) (Sp.SC (pF m σ s)) (((List.range (4*n)).filter (fun x=>R.getD x 0==(x:Int))).map u):=by
  refine ⟨fun x hx=>?_,?_,fun x hx y hy e=>?_,fun x hx cx=>?_⟩
  ·obtain ⟨r,hr,rfl⟩:=List.mem_map.1 hx
   have:=u1 r ((hf r).1 hr).1
   exact ⟨this.1,this.2.1⟩
  ·refine yho (fun a ha b hb e=>?_) (List.nodup_range.filter _)
   have ha':=(hf a).1 ha
   have hb':=(hf b).1 hb
   exact uj a b ha'.1 hb'.1 ha'.2 hb'.2 (by rw [e];exact .refl _)
  ·obtain ⟨a,ha,rfl⟩:=List.mem_map.1 hx
   obtain ⟨b,hb,rfl⟩:=List.mem_map.1 hy
   have ha':=(hf a).1 ha
   have hb':=(hf b).1 hb
   have ua:=u1 a ha'.1
   have ub:=u1 b hb'.1
   rw [uj a b ha'.1 hb'.1 ha'.2 hb'.2 ((yq6 hp h ua.1 ub.1 ua.2.1).1 e).1]
  ·have rr:=hR.rep.rng x hx
   have ri:=hR.rep.idem x hx
   obtain ⟨r,hr⟩: ∃r:Nat,R.getD x 0=r:=⟨(R.getD x 0).toNat,by omega⟩
   rw [hr,Int.toNat_natCast] at ri
   have rl:r<4*n:=by omega
   have ur:=u1 r rl
   refine ⟨u r,List.mem_map.2 ⟨r,(hf r).2 ⟨rl,ri⟩,rfl⟩,(yq6 hp h hx ur.1 cx).2 ⟨?_,ur.2.1⟩⟩
   exact ((hR.iff x r hx rl).1 (by rw [hr,ri])).trans ur.2.2
 rw [hl.len_eq (Sp.SC.eqv hP) hT,List.length_map]
 unfold roots
 rw [hlen,List.countP_eq_length_filter]
theorem pig4 {u v w z y:Nat} (hu:u/4=c) (hv:v/4=c) (hw:w/4=c) (hz:z/4=c) (hy:y/4=c) (h1:u≠v) (h2:u≠w) (h3:u≠z) (h4:v≠w) (h5:v≠z) (h6:w≠z):y=u\/y=v\/y=w\/y=z:=by
 refine Decidable.byContradiction fun h=>?_
 simp only [not_or] at h
 have:=ybk (l:=[u,v,w,z,y]) (k:=[4*c,4*c+1,4*c+2,4*c+3]) (by simp [h1,h2,h3,h4,h5,h6,Ne.symm h.1,Ne.symm h.2.1,Ne.symm h.2.2.1,Ne.symm h.2.2.2]) (fun x hx=>by
  have:x/4=c:=by simp only [List.mem_cons,List.not_mem_nil,or_false] at hx;rcases hx with rfl|rfl|rfl|rfl|rfl<;>assumption
  simp only [List.mem_cons,List.not_mem_nil,or_false];omega)
 simp at this
set_option maxHeartbeats 2000000 in
theorem ywm (hp:PmOk m n) (h:Flp m n σ s) (h':Flp m n σ s') (hc:c<n) (hoff: ∀x,x≠c->s x=s' x) (hs:s c<3) (hs':s' c<3) (hne:s c≠s' c):
  ∃u v,u/4=c/\v/4=c/\σ u=false/\σ v=false/\u≠v/\((Cir (fun x=>m.getD x.toNat 0) (st3 s) (Sp.alD m u:Nat) (Sp.alD m v:Nat)/\cir3 m n s'=cir3 m n s+1)\/(¬Cir (fun x=>m.getD x.toNat 0) (st3 s) (Sp.alD m u:Nat) (Sp.alD m v:Nat)/\cir3 m n s=cir3 m n s'+1)):=by
 have hD:=yhr hp
 have hm:=hD.mat
 have hP:=yie hp h
 have hP':=yie hp h'
 obtain ⟨u,hu⟩: ∃u,u/4=c/\σ u=false:=by
  by_cases e:σ (4*c)=true
  ·exact ⟨jS s (4*c),by rw [ygh];omega,by rw [h.jn _ (by omega),e];rfl⟩
  ·exact ⟨4*c,by omega,by simpa using e⟩
 have lu:u<4*n:=by omega
 obtain ⟨w,hw⟩: ∃w,jS s' u=w:=⟨_,rfl⟩
 obtain ⟨v,hv⟩: ∃v,jS s w=v:=⟨_,rfl⟩
 obtain ⟨z,hz⟩: ∃z,jS s u=z:=⟨_,rfl⟩
 have wc:w/4=c:=by rw [←hw,ygh];exact hu.1
 have vc:v/4=c:=by rw [←hv,ygh];exact wc
 have zc:z/4=c:=by rw [←hz,ygh];exact hu.1
 have cw:σ w=true:=by rw [←hw,h'.jn u lu,hu.2];rfl
 have cz:σ z=true:=by rw [←hz,h.jn u lu,hu.2];rfl
 have cv:σ v=false:=by rw [←hv,h.jn w (by omega),cw];rfl
 have nzw:z≠w:=fun e=>y0l (s:=s) (s':=s') hs hs' hne hu.1 (by rw [hz,hw,e])
 have jv:jS s v=w:=by rw [←hv,ygi]
 have nuv:u≠v:=fun e=>nzw (by rw [←hz,e,jv])
 have dif: ∀a b,σ a=true->σ b=false->a≠b:=fun a b ha hb e=>by rw [e,hb] at ha;cases ha
 have only: ∀y,y/4=c->σ y=false->y=u\/y=v:=fun y hy cy=>by
  rcases pig4 hu.1 vc wc zc hy nuv (dif w u cw hu.2).symm (dif z u cz hu.2).symm (dif w v cw cv).symm (dif z v cz cv).symm nzw.symm with e|e|e|e
  ·exact .inl e
  ·exact .inr e
  ·exact absurd e (dif w y cw cy).symm
  ·exact absurd e (dif z y cz cy).symm
 have only2: ∀y,y/4=c->σ y=true->y=z\/y=w:=fun y hy cy=>by
  rcases pig4 hu.1 vc wc zc hy nuv (dif w u cw hu.2).symm (dif z u cz hu.2).symm (dif w v cw cv).symm (dif z v cz cv).symm nzw.symm with e|e|e|e
  ·exact absurd e (dif y u cy hu.2)
  ·exact absurd e (dif y v cy cv)
  ·exact .inr e
  ·exact .inl e
 have jv':jS s' v=z:=by
  rcases only2 (jS s' v) (by rw [ygh];exact vc) (by rw [h'.jn v (by omega),cv];rfl) with e|e
  ·exact e
  ·exact absurd (by rw [←ygi s' u,hw,←e,ygi]) nuv
 have lv:v<4*n:=by omega
 have la:=hm.lt u lu
 have lb:=hm.lt v lv
 have ca:σ (Sp.alD m u)=true:=by rw [h.mt u lu,hu.2];rfl
 have cb:σ (Sp.alD m v)=true:=by rw [h.mt v lv,cv];rfl
 have nab:Sp.alD m u≠Sp.alD m v:=fun e=>nuv (by rw [←hm.inv u lu,e,hm.inv v lv])
 have hsw: ∀x,x<4*n->Sp.swp (pF m σ s) (Sp.alD m u) (Sp.alD m v) x=pF m σ s' x:=fun x hx=>by
  unfold Sp.swp
  by_cases e1:x=Sp.alD m u
  ·rw [if_pos e1,e1]
   unfold pF
   rw [if_pos cb,if_pos ca,hm.inv u lu,hm.inv v lv,jv,hw]
  ·by_cases e2:x=Sp.alD m v
   ·rw [if_neg e1,if_pos e2,e2]
    unfold pF
    rw [if_pos cb,if_pos ca,hm.inv u lu,hm.inv v lv,hz,jv']
   ·rw [if_neg e1,if_neg e2]
    unfold pF
    by_cases cx:σ x=true
    ·rw [if_pos cx,if_pos cx]
     refine y0k hoff fun hxc=>?_
     rcases only _ hxc (by rw [h.mt x hx,cx];rfl) with e|e
     ·exact e1 (by rw [←e,hm.inv x hx])
     ·exact e2 (by rw [←e,hm.inv x hx])
    ·rw [if_neg cx,if_neg cx]
 have hS:=Sp.swp_perm hP la lb
 obtain ⟨l,hl⟩:=Sp.Tr.exists (Sp.SC.eqv hP) fun x=>σ x=true
 obtain ⟨l',hl'⟩:=Sp.Tr.exists (Sp.SC.eqv hP') fun x=>σ x=true
 rw [←yn9 hp h hl,←yn9 hp h' hl']
 have hl2:Sp.Tr (4*n) (fun x=>σ x=true) (Sp.SC (Sp.swp (pF m σ s) (Sp.alD m u) (Sp.alD m v))) l':=hl'.congr fun x y hx _=>(Sp.SC_congr hS hsw hx).symm
 have hcir:=yq6 hp h la lb ca
 refine ⟨u,v,hu.1,vc,hu.2,cv,nuv,?_⟩
 by_cases hsc:Sp.SC (pF m σ s) (Sp.alD m u) (Sp.alD m v)
 ·have hno:=Sp.swp_part hP la nab hsc
  have hj:=Sp.swp_join hS la lb hno
  rw [Sp.swp_swp] at hj
  exact .inl ⟨(hcir.1 hsc).1,hl2.join (Sp.SC.eqv hS) la lb ca cb hno (hl.congr hj)⟩
 ·exact .inr ⟨fun e=>hsc (hcir.2 ⟨e,cb⟩),hl.join (Sp.SC.eqv hP) la lb ca cb hsc (hl2.congr (Sp.swp_join hP la lb hsc))⟩
end
section
variable {s m:List Int} {L:Int}
theorem ypx (hv:yaj s m L=true) (q:Nat->Nat) (hq: ∀c,c<s.length->q c=2\/q c=nb01 (s.getD c 0== -1)):Flp m s.length (fun x=>outB s (x:Int)) q:=by
 have v:=yat hv
 have hD:=yhr (pmOk hv)
 refine ⟨fun x hx=>?_,fun x hx=>?_⟩
 ·have:=(v.mt x hx).2.2.2.2
  rw [hD.cast hx]
  revert this
  cases outB s (m.getD x 0)<;>cases outB s (x:Int)<;>simp
 ·have hc:x/4<s.length:=by omega
  rw [yda]
  unfold st3
  rw [show ((x:Int)/4).toNat=x/4 by omega]
  have e:x=4*(x/4)\/x=4*(x/4)+1\/x=4*(x/4)+2\/x=4*(x/4)+3:=by omega
  rcases hq _ hc with h|h<;>rw [h]
  ·have hsg:=v.sg (x/4) hc
   generalize x/4=c at*
   obtain ⟨_,_,_,_,_,_,_,_,v9,v10,v11,v12⟩:=ynw (c:Int)
   have ov:=yct s c
   rcases e with rfl|rfl|rfl|rfl
   ·rw [show ((4*c:Nat):Int)=4*(c:Int) by omega,v9,show (4*(c:Int)+2)=((4*c+2:Nat):Int) by omega,show (4*(c:Int))=((4*c:Nat):Int) by omega,ov.1,ov.2.2.1];rfl
   ·rw [show ((4*c+1:Nat):Int)=4*(c:Int)+1 by omega,v10,show (4*(c:Int)+3)=((4*c+3:Nat):Int) by omega,show (4*(c:Int)+1)=((4*c+1:Nat):Int) by omega,ov.2.1,ov.2.2.2]
    rcases hsg with e|e<;>rw [e]<;>rfl
   ·rw [show ((4*c+2:Nat):Int)=4*(c:Int)+2 by omega,v11,show (4*(c:Int)+2)=((4*c+2:Nat):Int) by omega,show (4*(c:Int))=((4*c:Nat):Int) by omega,ov.1,ov.2.2.1];rfl
   ·rw [show ((4*c+3:Nat):Int)=4*(c:Int)+3 by omega,v12,show (4*(c:Int)+3)=((4*c+3:Nat):Int) by omega,show (4*(c:Int)+1)=((4*c+1:Nat):Int) by omega,ov.2.1,ov.2.2.2]
    rcases hsg with e|e<;>rw [e]<;>rfl
  ·have:=Sp.jnB_out (s:=s) (c:=x/4) (x:=(x:Int)) (v.sg _ hc) (by omega)
   rw [←this]
   unfold nb01
   cases (s.getD (x/4) 0== -1)<;>rfl
end
end Go.Proofs.YtcnilhcplgiidaaDoor
