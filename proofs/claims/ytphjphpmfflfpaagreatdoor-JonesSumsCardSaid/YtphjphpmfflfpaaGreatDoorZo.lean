/- Plain: how many circles a state has, up to parity. -/
import Derived.Test.YtphjphpmfflfpaaGreatDoorZm
import Derived.Test.YtphjphpmfflfpaaGreatDoorZn
import Derived.Shelf.Strings.BuilderK
import Derived.WalkKit
import Derived.BigCall
import Derived.Test.YtphjphpmfflfpaaGreatDoorProg
import Derived.Test.YtphjphpmfflfpaaGreatDoorSh
import Derived.Test.YtphjphpmfflfpaaGreatDoorGa
import Derived.Lib.ItoaLen
import Derived.Lib.AppendIntMem
namespace Go.Proofs.YtphjphpmfflfpaaGreatDoor
set_option linter.unusedSimpArgs false
set_option linter.unusedVariables false
open Classical
section
variable {m:List Int} {n:Nat} {σ:Nat->Bool} {s s':Nat->Nat} {c:Nat}
def jS (s:Nat->Nat) (x:Nat):Nat:=(dD s (x:Int)).toNat
theorem uT (s:Nat->Nat) (x:Nat):((jS s x:Nat):Int)=dD s x:=by
 have:=BD (s ((x:Int)/4).toNat) x
 unfold jS dD;omega
theorem Be (s:Nat->Nat) (x:Nat):jS s x/4=x/4:=by
 have h1:=uT s x;have h2:=BD (s ((x:Int)/4).toNat) x;unfold dD at h1;omega
theorem Bd (s:Nat->Nat) (x:Nat):jS s (jS s x)=x:=by
 have h1:=uT s (jS s x);rw [uT s x] at h1;have h2:dD s (dD s (x:Int))=x:=by unfold dD;rw [BD,Kc]
 omega
theorem L7 (h: ∀x,x≠c->s x=s' x) {x:Nat} (hx:x/4≠c):jS s x=jS s' x:=by
 have h1:=uT s x;have h2:=uT s' x;unfold dD at h1 h2;rw [h _ (by omega)] at h1;omega
theorem M8 (x:Int):pr3 0 x≠pr3 1 x/\pr3 0 x≠pr3 2 x/\pr3 1 x≠pr3 2 x:=by
 have e:x=4*(x/4)\/x=4*(x/4)+1\/x=4*(x/4)+2\/x=4*(x/4)+3:=by omega
 obtain ⟨v1,v2,v3,v4,v5,v6,v7,v8,v9,v10,v11,v12⟩:=Dm (x/4);generalize x/4=c at*;rcases e with rfl|rfl|rfl|rfl
 ·rw [v1,v5,v9];omega
 ·rw [v2,v6,v10];omega
 ·rw [v3,v7,v11];omega
 ·rw [v4,v8,v12];omega
theorem L6 (hs:s c<3) (aZ:s' c<3) (az:s c≠s' c) {x:Nat} (hx:x/4=c):jS s x≠jS s' x:=fun e=>by
 have h1:=uT s x;have h2:=uT s' x;unfold dD at h1 h2;rw [show ((x:Int)/4).toNat=c by omega] at h1 h2;obtain ⟨d1,d2,d3⟩:=M8 (x:Int);have e1:pr3 (s c) x=pr3 (s' c) x:=by omega
 have a:s c=0\/s c=1\/s c=2:=by omega
 have b:s' c=0\/s' c=1\/s' c=2:=by omega
 rcases a with a|a|a<;>rcases b with b|b|b<;>rw [a,b] at e1<;>first|exact d1 e1|exact d2 e1|exact d3 e1|exact d1 e1.symm|exact d2 e1.symm|exact d3 e1.symm|exact az (a.trans b.symm)
structure AR (m:List Int) (n:Nat) (σ:Nat->Bool) (s:Nat->Nat):Prop where
 mt: ∀x,x<4*n->σ (Sp.bW m x)= !σ x
 jn: ∀x,x<4*n->σ (jS s x)= !σ x
def pF (m:List Int) (σ:Nat->Bool) (s:Nat->Nat) (x:Nat):Nat:=if σ x then jS s (Sp.bW m x) else x
theorem CU (hp:aE m n):Sp.lA m n:=⟨⟨hp.ok,hp.inv⟩,hp.ne⟩
theorem x8 {x:Nat} (hx:x<4*n):jS s x<4*n:=by have:=Be s x;omega
theorem G2 (hp:aE m n) (h:AR m n σ s):Sp.aN (4*n) (pF m σ s):=by
 have hm:=(CU hp).ej;refine ⟨fun x hx=>?_,fun x y hx hy e=>?_⟩
 ·unfold pF;split
  ·exact x8 (hm.lt x hx)
  ·exact hx
 ·have QS: ∀x,x<4*n->σ x=true->σ (jS s (Sp.bW m x))=true:=fun x hx e=>by rw [h.jn _ (hm.lt x hx),h.mt x hx,e];rfl
  unfold pF at e;by_cases h1:σ x=true<;>by_cases h2:σ y=true
  ·rw [if_pos h1,if_pos h2] at e
   have:=congrArg (jS s) e
   rw [Bd,Bd] at this;rw [←hm.inv x hx,this,hm.inv y hy]
  ·rw [if_pos h1,if_neg h2] at e;exact absurd (e▸QS x hx h1) h2
  ·rw [if_neg h1,if_pos h2] at e;exact absurd (e▸QS y hy h2) h1
  ·rw [if_neg h1,if_neg h2] at e;exact e
theorem xU (hp:aE m n) (h:AR m n σ s) {x y:Nat} (hx:x<4*n) (hy:y<4*n) (cx:σ x=true):Sp.SC (pF m σ s) x y↔aL (fun x=>m.getD x.toNat 0) (dD s) x y/\σ y=true:=by
 have hD:=CU hp;have hm:=hD.ej;have hP:=G2 hp h;have hi:=vP hp.ok hp.inv hp.ne s;have cm: ∀z,z<4*n->m.getD z 0=(Sp.bW m z:Nat):=fun z hz=>(hD.cast hz).symm;constructor
 ·rintro ⟨k,rfl⟩;clear hy
  induction k with
  |zero=>exact ⟨.refl _,cx⟩
  |succ k ih=>
   have lt:=hP.cI hx k;simp only [Sp.itn];generalize Sp.itn (pF m σ s) k x=z at*;obtain ⟨i1,i2⟩:=ih;unfold pF;rw [if_pos i2];refine ⟨?_,by rw [h.jn _ (hm.lt z lt),h.mt z lt,i2];rfl⟩
   have:=aL.join (aL.aH i1)
   simp only [Int.toNat_natCast] at this;rw [cm z lt,←uT] at this;exact this
 ·rintro ⟨hc,cy⟩;have key: ∀z:Int,aL (fun x=>m.getD x.toNat 0) (dD s) x z->au n z/\(σ z.toNat=true->Sp.SC (pF m σ s) x z.toNat)/\(σ z.toNat=false->Sp.SC (pF m σ s) x (Sp.bW m z.toNat)):=fun z hz=>by
   induction hz with
   |refl=>exact ⟨by unfold au;omega,fun _=>by simpa using Sp.SC.refl _ _,fun e=>by simp [cx] at e⟩
   | @aH z _ ih=>
     obtain ⟨r,i1,i2⟩:=ih;refine ⟨hi.mr z r,?_⟩;unfold au at r;have e:((fun x:Int=>m.getD x.toNat 0) z).toNat=Sp.bW m z.toNat:=rfl;rw [e,h.mt _ (by omega),hm.inv _ (by omega)];exact ⟨fun e=>i2 (by simpa using e),fun e=>i1 (by simpa using e)⟩
   | @join z _ ih=>
     obtain ⟨r,i1,i2⟩:=ih;refine ⟨hi.jr z r,?_⟩;unfold au at r;have e:(dD s z).toNat=jS s z.toNat:=by unfold jS;rw [show ((z.toNat:Nat):Int)=z by omega]
     rw [e,h.jn _ (by omega)];refine ⟨fun e=>?_,fun e=>?_⟩
     ·have cz:σ z.toNat=false:=by simpa using e
      have g:=i2 cz;refine g.trans ⟨1,?_⟩;simp only [Sp.itn];unfold pF;rw [h.mt _ (by omega),cz,if_pos (by rfl),hm.inv _ (by omega)]
     ·have cz:σ z.toNat=true:=by simpa using e
      have lj:jS s z.toNat<4*n:=x8 (by omega);refine (i1 cz).trans (Sp.SC.symm hP (hm.lt _ lj) ⟨1,?_⟩);simp only [Sp.itn];unfold pF;rw [h.mt _ lj,h.jn _ (by omega),cz,if_pos (by rfl),hm.inv _ lj,Bd]
  have:=(key y hc).2.1
  simp only [Int.toNat_natCast] at this;exact this cy
theorem RR (hp:aE m n) (h:AR m n σ s) {l:List Nat} (hl:Sp.Tr (4*n) (fun x=>σ x=true) (Sp.SC (pF m σ s)) l):l.length=dy m n s:=by
 have hD:=CU hp;have hm:=hD.ej;have hP:=G2 hp h;have hi:=vP hp.ok hp.inv hp.ne s;have hR:=xh hp s;unfold dy;generalize crN (fun x=>m.getD x.toNat 0) (dD s) (4*n) (4*n)=R at*;have cm: ∀z,z<4*n->m.getD z 0=(Sp.bW m z:Nat):=fun z hz=>(hD.cast hz).symm;obtain ⟨u,hu⟩: ∃u:Nat->Nat,u=fun r=>if σ r then r else Sp.bW m r:=⟨_,rfl⟩
 have u1: ∀r,r<4*n->u r<4*n/\σ (u r)=true/\aL (fun x=>m.getD x.toNat 0) (dD s) r (u r):=fun r hr=>by
  rw [hu];by_cases e:σ r=true
  ·simp only [if_pos e];exact ⟨hr,e, .refl _⟩
  ·simp only [if_neg e];refine ⟨hm.lt r hr,by rw [h.mt r hr];simpa using e,?_⟩
   have:=aL.aH (mt:=fun x=>m.getD x.toNat 0) (jn:=dD s) (aL.refl (r:Int))
   simp only [Int.toNat_natCast] at this;rw [cm r hr] at this;exact this
 have hlen:=hR.rep.len;have sy: ∀{a b:Nat},a<4*n->aL (fun x=>m.getD x.toNat 0) (dD s) a b->aL (fun x=>m.getD x.toNat 0) (dD s) b a:=fun ha e=>e.symm hi (by unfold au;omega);have hf: ∀r,r∈(List.range (4*n)).filter (fun x=>R.getD x 0==(x:Int))↔r<4*n/\R.getD r 0=r:=fun r=>by simp [List.mem_filter]
 have uj: ∀a b,a<4*n->b<4*n->R.getD a 0=a->R.getD b 0=b->aL (fun x=>m.getD x.toNat 0) (dD s) (u a) (u b)->a=b:=fun a b ha hb ea eb e=>by
  have q:=(hR.iff a b ha hb).2 (((u1 a ha).2.2.trans e).trans (sy hb (u1 b hb).2.2));omega
 have hT:Sp.Tr (4*n) (fun x=>σ x=true) (Sp.SC (pF m σ s)) (((List.range (4*n)).filter (fun x=>R.getD x 0==(x:Int))).map u):=by
  refine ⟨fun x hx=>?_,?_,fun x hx y hy e=>?_,fun x hx cx=>?_⟩
  ·obtain ⟨r,hr,rfl⟩:=List.mem_map.1 hx
   have:=u1 r ((hf r).1 hr).1
   exact ⟨this.1,this.2.1⟩
  ·refine HT (fun a ha b hb e=>?_) (List.nodup_range.filter _);have eH:=(hf a).1 ha;have my:=(hf b).1 hb;exact uj a b eH.1 my.1 eH.2 my.2 (by rw [e];exact .refl _)
  ·obtain ⟨a,ha,rfl⟩:=List.mem_map.1 hx;obtain ⟨b,hb,rfl⟩:=List.mem_map.1 hy;have eH:=(hf a).1 ha;have my:=(hf b).1 hb;have ua:=u1 a eH.1;have ub:=u1 b my.1;rw [uj a b eH.1 my.1 eH.2 my.2 ((xU hp h ua.1 ub.1 ua.2.1).1 e).1]
  ·have rr:=hR.rep.cn x hx;have ri:=hR.rep.idem x hx;obtain ⟨r,hr⟩: ∃r:Nat,R.getD x 0=r:=⟨(R.getD x 0).toNat,by omega⟩;rw [hr,Int.toNat_natCast] at ri;have rl:r<4*n:=by omega
   have ur:=u1 r rl;refine ⟨u r,List.mem_map.2 ⟨r,(hf r).2 ⟨rl,ri⟩,rfl⟩,(xU hp h hx ur.1 cx).2 ⟨?_,ur.2.1⟩⟩;exact ((hR.iff x r hx rl).1 (by rw [hr,ri])).trans ur.2.2
 rw [hl.bM (Sp.SC.eqv hP) hT,List.length_map];unfold roots;rw [hlen,List.countP_eq_length_filter]
theorem DZ {u v w z y:Nat} (hu:u/4=c) (hv:v/4=c) (hw:w/4=c) (hz:z/4=c) (hy:y/4=c) (h1:u≠v) (h2:u≠w) (h3:u≠z) (h4:v≠w) (h5:v≠z) (h6:w≠z):y=u\/y=v\/y=w\/y=z:=by
 refine Decidable.byContradiction fun h=>?_;simp only [not_or] at h
 have:=te (l:=[u,v,w,z,y]) (k:=[4*c,4*c+1,4*c+2,4*c+3]) (by simp [h1,h2,h3,h4,h5,h6,Ne.symm h.1,Ne.symm h.2.1,Ne.symm h.2.2.1,Ne.symm h.2.2.2]) (fun x hx=>by
  have:x/4=c:=by simp only [List.mem_cons,List.not_mem_nil,or_false] at hx;rcases hx with rfl|rfl|rfl|rfl|rfl<;>assumption
  simp only [List.mem_cons,List.not_mem_nil,or_false];omega)
 simp at this
set_option maxHeartbeats 2000000 in
theorem Ty (hp:aE m n) (h:AR m n σ s) (h':AR m n σ s') (hc:c<n) (fV: ∀x,x≠c->s x=s' x) (hs:s c<3) (aZ:s' c<3) (az:s c≠s' c):dy m n s=dy m n s'+1\/dy m n s'=dy m n s+1:=by
 have hD:=CU hp;have hm:=hD.ej;have hP:=G2 hp h;have XQ:=G2 hp h';obtain ⟨u,hu⟩: ∃u,u/4=c/\σ u=false:=by
  by_cases e:σ (4*c)=true
  ·exact ⟨jS s (4*c),by rw [Be];omega,by rw [h.jn _ (by omega),e];rfl⟩
  ·exact ⟨4*c,by omega,by simpa using e⟩
 have lu:u<4*n:=by omega
 obtain ⟨w,hw⟩: ∃w,jS s' u=w:=⟨_,rfl⟩;obtain ⟨v,hv⟩: ∃v,jS s w=v:=⟨_,rfl⟩;obtain ⟨z,hz⟩: ∃z,jS s u=z:=⟨_,rfl⟩;have wc:w/4=c:=by rw [←hw,Be];exact hu.1
 have vc:v/4=c:=by rw [←hv,Be];exact wc
 have zc:z/4=c:=by rw [←hz,Be];exact hu.1
 have cw:σ w=true:=by rw [←hw,h'.jn u lu,hu.2];rfl
 have cz:σ z=true:=by rw [←hz,h.jn u lu,hu.2];rfl
 have cv:σ v=false:=by rw [←hv,h.jn w (by omega),cw];rfl
 have O4:z≠w:=fun e=>L6 (s:=s) (s':=s') hs aZ az hu.1 (by rw [hz,hw,e]);have jv:jS s v=w:=by rw [←hv,Bd]
 have H6:u≠v:=fun e=>O4 (by rw [←hz,e,jv]);have sU: ∀a b,σ a=true->σ b=false->a≠b:=fun a b ha hb e=>by rw [e,hb] at ha;cases ha
 have only: ∀y,y/4=c->σ y=false->y=u\/y=v:=fun y hy cy=>by
  rcases DZ hu.1 vc wc zc hy H6 (sU w u cw hu.2).symm (sU z u cz hu.2).symm (sU w v cw cv).symm (sU z v cz cv).symm O4.symm with e|e|e|e
  ·exact .inl e
  ·exact .inr e
  ·exact absurd e (sU w y cw cy).symm
  ·exact absurd e (sU z y cz cy).symm
 have D8: ∀y,y/4=c->σ y=true->y=z\/y=w:=fun y hy cy=>by
  rcases DZ hu.1 vc wc zc hy H6 (sU w u cw hu.2).symm (sU z u cz hu.2).symm (sU w v cw cv).symm (sU z v cz cv).symm O4.symm with e|e|e|e
  ·exact absurd e (sU y u cy hu.2)
  ·exact absurd e (sU y v cy cv)
  ·exact .inr e
  ·exact .inl e
 have jv':jS s' v=z:=by
  rcases D8 (jS s' v) (by rw [Be];exact vc) (by rw [h'.jn v (by omega),cv];rfl) with e|e
  ·exact e
  ·exact absurd (by rw [←Bd s' u,hw,←e,Bd]) H6
 have lv:v<4*n:=by omega
 have la:=hm.lt u lu;have lb:=hm.lt v lv;have ca:σ (Sp.bW m u)=true:=by rw [h.mt u lu,hu.2];rfl
 have cb:σ (Sp.bW m v)=true:=by rw [h.mt v lv,cv];rfl
 have nab:Sp.bW m u≠Sp.bW m v:=fun e=>H6 (by rw [←hm.inv u lu,e,hm.inv v lv]);have gm: ∀x,x<4*n->Sp.swp (pF m σ s) (Sp.bW m u) (Sp.bW m v) x=pF m σ s' x:=fun x hx=>by
  unfold Sp.swp;by_cases e1:x=Sp.bW m u
  ·rw [if_pos e1,e1];unfold pF;rw [if_pos cb,if_pos ca,hm.inv u lu,hm.inv v lv,jv,hw]
  ·by_cases e2:x=Sp.bW m v
   ·rw [if_neg e1,if_pos e2,e2];unfold pF;rw [if_pos cb,if_pos ca,hm.inv u lu,hm.inv v lv,hz,jv']
   ·rw [if_neg e1,if_neg e2];unfold pF;by_cases cx:σ x=true
    ·rw [if_pos cx,if_pos cx];refine L7 fV fun Et=>?_;rcases only _ Et (by rw [h.mt x hx,cx];rfl) with e|e
     ·exact e1 (by rw [←e,hm.inv x hx])
     ·exact e2 (by rw [←e,hm.inv x hx])
    ·rw [if_neg cx,if_neg cx]
 have hS:=Sp.cC hP la lb;obtain ⟨l,hl⟩:=Sp.Tr.exists (Sp.SC.eqv hP) fun x=>σ x=true;obtain ⟨l',rP⟩:=Sp.Tr.exists (Sp.SC.eqv XQ) fun x=>σ x=true;rw [←RR hp h hl,←RR hp h' rP];have tN:Sp.Tr (4*n) (fun x=>σ x=true) (Sp.SC (Sp.swp (pF m σ s) (Sp.bW m u) (Sp.bW m v))) l':=rP.congr fun x y hx _=>(Sp.cu hS gm hx).symm;by_cases jg:Sp.SC (pF m σ s) (Sp.bW m u) (Sp.bW m v)
 ·have cD:=Sp.cT hP la nab jg;have hj:=Sp.bu hS la lb cD;rw [Sp.dC] at hj;exact .inr (tN.join (Sp.SC.eqv hS) la lb ca cb cD (hl.congr hj))
 ·exact .inl (hl.join (Sp.SC.eqv hP) la lb ca cb jg (tN.congr (Sp.bu hP la lb jg)))
end
section
variable {s m:List Int} {L:Int}
theorem JQ (hv:bF s m L=true) (q:Nat->Nat) (hq: ∀c,c<s.length->q c=2\/q c=df (s.getD c 0== -1)):AR m s.length (fun x=>aw s (x:Int)) q:=by
 have v:=cK hv;have hD:=CU (bP hv);refine ⟨fun x hx=>?_,fun x hx=>?_⟩
 ·have:=(v.mt x hx).2.2.2.2
  rw [hD.cast hx];revert this;cases aw s (m.getD x 0)<;>cases aw s (x:Int)<;>simp
 ·have hc:x/4<s.length:=by omega
  rw [uT];unfold dD;rw [show ((x:Int)/4).toNat=x/4 by omega];have e:x=4*(x/4)\/x=4*(x/4)+1\/x=4*(x/4)+2\/x=4*(x/4)+3:=by omega
  rcases hq _ hc with h|h<;>rw [h]
  ·have rJ:=v.sg (x/4) hc;generalize x/4=c at*;obtain ⟨_,_,_,_,_,_,_,_,v9,v10,v11,v12⟩:=Dm (c:Int);have ov:=mK s c;rcases e with rfl|rfl|rfl|rfl
   ·rw [show ((4*c:Nat):Int)=4*(c:Int) by omega,v9,show (4*(c:Int)+2)=((4*c+2:Nat):Int) by omega,show (4*(c:Int))=((4*c:Nat):Int) by omega,ov.1,ov.2.2.1];rfl
   ·rw [show ((4*c+1:Nat):Int)=4*(c:Int)+1 by omega,v10,show (4*(c:Int)+3)=((4*c+3:Nat):Int) by omega,show (4*(c:Int)+1)=((4*c+1:Nat):Int) by omega,ov.2.1,ov.2.2.2];rcases rJ with e|e<;>rw [e]<;>rfl
   ·rw [show ((4*c+2:Nat):Int)=4*(c:Int)+2 by omega,v11,show (4*(c:Int)+2)=((4*c+2:Nat):Int) by omega,show (4*(c:Int))=((4*c:Nat):Int) by omega,ov.1,ov.2.2.1];rfl
   ·rw [show ((4*c+3:Nat):Int)=4*(c:Int)+3 by omega,v12,show (4*(c:Int)+3)=((4*c+3:Nat):Int) by omega,show (4*(c:Int)+1)=((4*c+1:Nat):Int) by omega,ov.2.1,ov.2.2.2];rcases rJ with e|e<;>rw [e]<;>rfl
  ·have:=Sp.wx (s:=s) (c:=x/4) (x:=(x:Int)) (v.sg _ hc) (by omega)
   rw [←this];unfold df;cases (s.getD (x/4) 0== -1)<;>rfl
theorem Zt (hv:bF s m L=true):(aX m s.length (fun c=>s.getD c 0== -1)+(a8 s m).length+s.length)% 2=0:=by
 have hp:=bP hv;rw [TZ (cK hv) hp,Bu hp];have key: ∀i,i<=s.length->(dy m s.length (fun c=>if c<i then df (s.getD c 0== -1) else 2)+dy m s.length (fun c=>if c<0 then df (s.getD c 0== -1) else 2)+i)% 2=0:=fun i=>by
  induction i with
  |zero=>intro _;omega
  |succ i ih=>
   intro hi;have h0:=ih (by omega);have n2:df (s.getD i 0== -1)<2:=by cases (s.getD i 0== -1)<;>decide
   have:=Ty (c:=i) (s:=fun c=>if c<i then df (s.getD c 0== -1) else 2) (s':=fun c=>if c<i+1 then df (s.getD c 0== -1) else 2) hp
    (JQ hv _ fun c _=>by by_cases h:c<i<;>simp [h]) (JQ hv _ fun c _=>by by_cases h:c<i+1<;>simp [h]) (by omega)
    (fun x hx=>by
     by_cases h:x<i
     ·simp only [if_pos h,if_pos (show x<i+1 by omega)]
     ·simp only [if_neg h,if_neg (show¬x<i+1 by omega)]) (by simp) (by simp only [if_pos (show i<i+1 by omega)];omega) (by simp only [if_neg (show¬i<i by omega),if_pos (show i<i+1 by omega)];omega)
   omega
 have h:=key s.length (Nat.le_refl _);have cg: ∀{q q':Nat->Nat},(∀c,c<s.length->q c=q' c)->dy m s.length q=dy m s.length q':=fun {q q'} hq=>by
  have R:=xh hp q;have R':=xh hp q';unfold dy;have hi:=vP hp.ok hp.inv hp.ne q;have iy:=vP hp.ok hp.inv hp.ne q';have eqs: ∀z,au s.length z->dD q z=dD q' z:=fun z hz=>by unfold au at hz;unfold dD;rw [hq _ (by omega)]
  have up: ∀{q q':Nat->Nat} (hi:Inv2 s.length (fun x=>m.getD x.toNat 0) (dD q)) (_: ∀z,au s.length z->dD q z=dD q' z) {x y:Int},au s.length x->aL (fun x=>m.getD x.toNat 0) (dD q) x y->aL (fun x=>m.getD x.toNat 0) (dD q') x y:=fun {q q'} hi he {x y} hx h=>by
   induction h with
   |refl=>exact .refl _
   |aH _ ih=>exact .aH ih
   | @join z hz ih=>rw [he z (hz.cn hi hx)];exact .join ih
  exact zp R ⟨R'.rep,fun x y hx hy=>(R'.iff x y hx hy).trans ⟨up iy (fun z hz=>(eqs z hz).symm) (by unfold au;omega),up hi eqs (by unfold au;omega)⟩⟩
 rw [cg (q':=fun c=>df (s.getD c 0== -1)) fun c hc=>if_pos hc,cg (q:=fun c=>if c<0 then df (s.getD c 0== -1) else 2) (q':=gh s.length 0 0) fun c hc=>by unfold gh;rw [if_neg (by omega),if_neg (by omega),if_pos hc]] at h;exact h
def oS (s:List Int) (x:Nat):Int:=if aw s (x:Int) then 1 else-1
theorem FN (hv:bF s m L=true): ∃σ:Nat->Bool,∀q:Nat->Nat,(∀c,c<s.length->q c<2)->AR m s.length σ q:=by
 have v:=cK hv;have hp:=bP hv;obtain ⟨hd,eZ⟩:=Sp.jk hv;have hS:=hd.vZ.1 eZ;have hf:=JQ hv (fun _=>2) fun _ _=> .inl rfl;obtain ⟨g,hg⟩:=hS.OZ (oS s) (fun x _=>by unfold oS;by_cases e:aw s (x:Int)=true<;>simp [e]) (fun x hx=>by
  have:=hf.mt x hx
  unfold oS;rw [show aw s ((Sp.bW m x:Nat):Int)= !aw s (x:Int) from this];cases aw s (x:Int)<;>rfl) (fun c hc=>by
  have ov:=mK s c;have rJ:=v.sg c hc;unfold oS;simp only [ov.1,ov.2.1,ov.2.2.1,ov.2.2.2];rcases rJ with e|e<;>rw [e]<;>exact ⟨rfl,rfl⟩)
 have ov: ∀x,oS s x=1\/oS s x= -1:=fun x=>by unfold oS;by_cases e:aw s (x:Int)=true<;>simp [e]
 have c1: ∀x,x<4*s.length->(g (Sp.bW m x)% 2=0↔ ¬g x % 2=0):=fun x hx=>by
  have:=hg.edge x hx
  have:=ov x
  omega
 have c2: ∀x,x<4*s.length->(g (Sp.bT x)% 2=0↔ ¬g x % 2=0):=fun x hx=>by
  have h1:=hg.hY _ (hd.ej.lt x hx);rw [hd.ej.inv x hx] at h1;rw [h1];exact c1 x hx
 refine ⟨fun x=>decide (g x % 2=0),fun q hq=>⟨fun x hx=>?_,fun x hx=>?_⟩⟩
 ·have:=c1 x hx
  simp only [this];by_cases e:g x % 2=0<;>simp [e]
 ·have hc:x/4<s.length:=by omega
  have hj:=uT q x;unfold dD at hj;rw [show ((x:Int)/4).toNat=x/4 by omega] at hj;have pU:=hq _ hc;have e:x=4*(x/4)\/x=4*(x/4)+1\/x=4*(x/4)+2\/x=4*(x/4)+3:=by omega
  generalize x/4=c at*;have d0:=c2 (4*c) (by omega);have d1:=c2 (4*c+1) (by omega);have d2:=c2 (4*c+2) (by omega);have d3:=c2 (4*c+3) (by omega);rw [show Sp.bT (4*c)=4*c+3 by unfold Sp.bT;omega] at d0;rw [show Sp.bT (4*c+1)=4*c by unfold Sp.bT;omega] at d1;rw [show Sp.bT (4*c+2)=4*c+1 by unfold Sp.bT;omega] at d2;rw [show Sp.bT (4*c+3)=4*c+2 by unfold Sp.bT;omega] at d3
  obtain ⟨v1,v2,v3,v4,v5,v6,v7,v8,_⟩:=Dm (c:Int);have key: ∀y,(jS q x=y)->(g y % 2=0↔ ¬g x % 2=0)->decide (g (jS q x)% 2=0)= !decide (g x % 2=0):=fun y hy h=>by
   rw [hy];by_cases e:g x % 2=0
   ·rw [decide_eq_true e,decide_eq_false fun h'=>h.1 h' e];rfl
   ·rw [decide_eq_false e,decide_eq_true (h.2 e)];rfl
  have q01:q c=0\/q c=1:=by omega
  rcases q01 with h|h<;>rw [h] at hj<;>rcases e with rfl|rfl|rfl|rfl
  ·rw [show ((4*c:Nat):Int)=4*(c:Int) by omega,v1] at hj;exact key (4*c+1) (by omega) (by omega)
  ·rw [show ((4*c+1:Nat):Int)=4*(c:Int)+1 by omega,v2] at hj;exact key (4*c) (by omega) (by omega)
  ·rw [show ((4*c+2:Nat):Int)=4*(c:Int)+2 by omega,v3] at hj;exact key (4*c+3) (by omega) (by omega)
  ·rw [show ((4*c+3:Nat):Int)=4*(c:Int)+3 by omega,v4] at hj;exact key (4*c+2) (by omega) (by omega)
  ·rw [show ((4*c:Nat):Int)=4*(c:Int) by omega,v5] at hj;exact key (4*c+3) (by omega) (by omega)
  ·rw [show ((4*c+1:Nat):Int)=4*(c:Int)+1 by omega,v6] at hj;exact key (4*c+2) (by omega) (by omega)
  ·rw [show ((4*c+2:Nat):Int)=4*(c:Int)+2 by omega,v7] at hj;exact key (4*c+1) (by omega) (by omega)
  ·rw [show ((4*c+3:Nat):Int)=4*(c:Int)+3 by omega,v8] at hj;exact key (4*c) (by omega) (by omega)
theorem M7 (hv:bF s m L=true) (ch:Nat->Bool):(aX m s.length ch+difS false ch s.length+(a8 s m).length+s.length+difS false (fun c=>s.getD c 0== -1) s.length)% 2=0:=by
 have hp:=bP hv;obtain ⟨σ,hσ⟩:=FN hv;have key: ∀(c1 c2:Nat->Bool) (i:Nat),i<=s.length->(aX m s.length (fun c=>if c<i then c1 c else c2 c)+difS false c1 i+aX m s.length c2+difS false c2 i)% 2=0:=fun c1 c2 i=>by
  induction i with
  |zero=>
   intro _;rw [show (fun c=>if c<0 then c1 c else c2 c)=c2 from funext fun c=>if_neg (by omega)];simp only [difS];omega
  |succ i ih=>
   intro hi;have h0:=ih (by omega);simp only [difS];have n2: ∀b,df b<2:=fun b=>by cases b<;>decide
   by_cases e:c1 i=c2 i
   ·have e2:(fun c=>if c<i+1 then c1 c else c2 c)=fun c=>if c<i then c1 c else c2 c:=by
     funext c;by_cases h:c<i
     ·rw [if_pos h,if_pos (by omega)]
     ·rw [if_neg h];by_cases h':c=i
      ·rw [if_pos (by omega),h',e]
      ·rw [if_neg (by omega)]
    rw [e2,e]
    split<;>omega
   ·have:=Ty (c:=i) (s:=fun c=>df (if c<i then c1 c else c2 c)) (s':=fun c=>df (if c<i+1 then c1 c else c2 c)) hp (hσ _ fun c _=>n2 _) (hσ _ fun c _=>n2 _) (by omega)
     (fun x hx=>by
      by_cases h:x<i
      ·simp only [if_pos h,if_pos (show x<i+1 by omega)]
      ·simp only [if_neg h,if_neg (show¬x<i+1 by omega)]) (by have:=n2 (if i<i then c1 i else c2 i);omega) (by have:=n2 (if i<i+1 then c1 i else c2 i);omega) (by
      simp only [if_neg (show¬i<i by omega),if_pos (show i<i+1 by omega)];revert e;cases c1 i<;>cases c2 i<;>simp [df])
    rw [←Bu hp,←Bu hp] at this;revert e;cases c1 i<;>cases c2 i<;>simp<;>omega
 have h1:=key ch (fun c=>s.getD c 0== -1) s.length (Nat.le_refl _);have h2:=Zt hv;have e2:aX m s.length (fun c=>if c<s.length then ch c else s.getD c 0== -1)=aX m s.length ch:=by unfold aX;rw [xB fun c hc=>if_pos hc]
 rw [e2] at h1;omega
end
end Go.Proofs.YtphjphpmfflfpaaGreatDoor
namespace Go.Proofs.YtphjphpmfflfpaaGreatDoor
open Go Go.RowKit
set_option maxRecDepth 100000
set_option maxHeartbeats 8000000
set_option linter.unusedVariables false
set_option linter.unusedSimpArgs false
def Gc:List (List Nat):=[[23,24,25,26,27],[22,24,25,26],[22,23,25],[22,23,24],[22,23],[22],[],[]]
def gK (p:List (Int×Int)):Int:=if 0<p.length then aS p else 0
def ph (p:List (Int×Int)):Int:=if 0<p.length then fv p else 0
theorem JP (p:List (Int×Int)):Fn Tryz.prog 51 [plA false p] (I (gK p)):=by
 unfold gK;by_cases h:0<p.length
 ·rw [if_pos h];exact Jv p h
 ·rw [if_neg h];obtain rfl:p=[]:=List.eq_nil_of_length_eq_zero (by omega);refine Fn.intro [.tmp 2] Tryz.func51 rfl rfl (by decide) (by simp [Tryz.ntmps51]) ?_;rw [Tryz.ntmps51]
  repeat' (first|omega|(try apply ag);simp only [go_sem,sevalprocAttr]|apply ah<;>(intro h_;(try simp only [h_]);revert h_)|apply ai|apply aj|apply ae|apply And.intro|with_reducible intro h_|trivial|simp only [go_sem,ak];omega)
theorem KC (p:List (Int×Int)) (hp:p.length<=1000000):Fn Tryz.prog 52 [plA false p] (I (ph p)):=by
 unfold ph;by_cases h:0<p.length
 ·rw [if_pos h];exact Kf p h hp
 ·rw [if_neg h];obtain rfl:p=[]:=List.eq_nil_of_length_eq_zero (by omega);refine Fn.intro [.tmp 2] Tryz.func52 rfl rfl (by decide) (by simp [Tryz.ntmps52]) ?_;rw [Tryz.ntmps52]
  repeat' (first|omega|(try apply ag);simp only [go_sem,sevalprocAttr]|apply ah<;>(intro h_;(try simp only [h_]);revert h_)|apply ai|apply aj|apply ae|apply And.intro|with_reducible intro h_|trivial|simp only [go_sem,ak];omega)
def rA (f:Int->Int) (to:Int->Int) (lo:Int) (k:Nat) (x:Int):Int:=sm (fun i=>if to (lo+i)=x then f (lo+i) else 0) k
theorem V2 {g:Nat->Int} {B:Int} (hB:0<=B) (hb: ∀i,-B<=g i/\g i<=B): ∀n,(∀i j,i<n->j<n->g i≠0->g j≠0->i=j)-> -B<=sm g n/\sm g n<=B
 |0,_=>by simp [sm];omega
 |n+1,h=>by
  have ih:=V2 hB hb n fun i j hi hj=>h i j (by omega) (by omega)
  have:=hb n
  simp only [sm];by_cases h0:g n=0
  ·omega
  ·have hz:sm g n=0:=by
    have:sm g n=sm (fun _=>0) n:=dO fun i hi=>by
     by_cases e:g i=0
     ·exact e
     ·exact absurd (h i n (by omega) (by omega) e h0) (by omega)
    rw [this,k8];omega
   omega
theorem Jc {f to:Int->Int} {lo:Int} {k:Nat} {x e:Int} (hs: ∀e,f e≠0->lo<=e/\e<lo+k) (Aj: ∀a b,f a≠0->f b≠0->to a=to b->a=b) (he:to e=x) (hf:f e≠0):rA f to lo k x=f e:=by
 have hr:=hs e hf;unfold rA;rw [vJ (a:=(e-lo).toNat) (by omega) fun i hi az=>?_]
 ·rw [show lo+((e-lo).toNat:Int)=e by omega,if_pos he]
 ·by_cases h:to (lo+i)=x
  ·rw [if_pos h];refine Decidable.byContradiction fun h0=>?_
   have:=Aj _ _ h0 hf (h.trans he.symm)
   omega
  ·rw [if_neg h]
theorem KB {f to:Int->Int} {lo:Int} {k:Nat} {x:Int} (h: ∀e,f e≠0->to e≠x):rA f to lo k x=0:=by
 unfold rA;rw [dO (g:=fun _=>0) fun i _=>?_,k8]
 ·omega
 ·by_cases h1:to (lo+i)=x
  ·rw [if_pos h1];exact Decidable.byContradiction fun h0=>h _ h0 h1
  ·rw [if_neg h1]
theorem Zs (c e:Int) (hc: -1125899906842624<=c/\c<=1125899906842624) (he: -1000<=e/\e<=1000):Fn Tryz.prog 131 [I c,I e] (plA false (B6 c e)):=NO c e hc (by omega)
theorem LK (p:List (Int×Int)) (f to:Int->Int) (g:Nat) (h:bZ p f) (hs: ∀e,f e≠0-> -500<=e/\e<=500) (hb: ∀e,-70368744177664<=f e/\f e<=70368744177664) (Aj: ∀a b,f a≠0->f b≠0->to a=to b->a=b)
  (zN: ∀e,-1000<=e->e<=1000->Fn Tryz.prog g [I e] (I (to e))/\ -1000<=to e/\to e<=1000):
  ∃r,bZ r (fun x=>rA f to (gK p) (ph p-gK p+1).toNat x)/\Fn Tryz.prog 72 [plA false p, .fn g []] (plA false r):=by
 have lI:=h.len fun e he=>by have:=hs e he;omega
 have hL:=JP p;have hH:=KC p (by omega);have lN: -500<=gK p/\gK p<=500/\gK p<=ph p/\ph p<=500:=by
  unfold gK ph;by_cases h0:0<p.length
  ·rw [if_pos h0,if_pos h0];have a:=hs _ (h.mem (jW (i:=0) h0)).2;have b:=hs _ (h.mem (jW (i:=p.length-1) (by omega))).2;have c:=(uV h.asc (jW (i:=p.length-1) (by omega))).1;exact ⟨a.1,a.2,c,b.2⟩
  ·rw [if_neg h0,if_neg h0];omega
 have uu: ∀k e,rA f to (gK p) k e≠0-> -1000<=e/\e<=1000:=fun k e he=>by
  obtain ⟨i,hi,h1⟩:=F7 he;by_cases ht:to (gK p+i)=e
  ·rw [if_pos ht] at h1
   have:=hs _ h1
   have:=(zN (gK p+i) (by omega) (by omega)).2
   omega
  ·rw [if_neg ht] at h1;exact absurd rfl h1
 have XZ: ∀k e,-70368744177664<=rA f to (gK p) k e/\rA f to (gK p) k e<=70368744177664:=fun k e=>
  V2 (g:=fun i:Nat=>if to (gK p+i)=e then f (gK p+i) else 0) (by decide) (fun i=>by have:=hb (gK p+i);split<;>omega) k fun i j _ _ hi hj=>by
   by_cases h1:to (gK p+i)=e
   ·by_cases h2:to (gK p+j)=e
    ·rw [if_pos h1] at hi;rw [if_pos h2] at hj
     have:=Aj _ _ hi hj (h1.trans h2.symm)
     omega
    ·rw [if_neg h2] at hj;exact absurd rfl hj
   ·rw [if_neg h1] at hi;exact absurd rfl hi
 refine ⟨_,pH (uu _),?_⟩;obtain ⟨lo,EW⟩: ∃lo,gK p=lo:=⟨_,rfl⟩;obtain ⟨hi,E2⟩: ∃hi,ph p=hi:=⟨_,rfl⟩;rw [EW] at hL lN uu XZ;rw [E2] at hH lN;rw [EW,E2];obtain ⟨N,hN⟩: ∃N:Nat,(hi-lo+1).toNat=N:=⟨_,rfl⟩;rw [hN];refine Fn.aq [.cell 4 29] Tryz.func72 rfl rfl (by decide) (by simp [Tryz.ntmps72]) ?_;rw [Tryz.ntmps72]
 repeat' (first|omega|(try apply ag);simp only [go_sem,sevalprocAttr]|apply ah<;>(intro h_;(try simp only [h_]);revert h_)|apply ai|apply aj|apply ae|apply And.intro|with_reducible intro h_|trivial|simp only [go_sem,ak];omega)
 refine ⟨aA.fn rfl hL ?_⟩
 repeat' (first|omega|(try apply ag);simp only [go_sem,sevalprocAttr]|apply ah<;>(intro h_;(try simp only [h_]);revert h_)|apply ai|apply aj|apply ae|apply And.intro|with_reducible intro h_|trivial|simp only [go_sem,ak];omega)
 refine bV.intro (fun n fr H=> ∃(k:Nat) (q:List (Int×Int)) (y:AV),k<=N/\n=N-k/\bZ q (fun x=>rA f to lo k x)/\(y=tmA q\/(q=[]/\y= .nils))/\fr=[(6,I (lo+k)),(5, .ptr 2 0),(4, .ptr 1 0),(2, .ptr 0 0),(1, .fn g [])]/\H=[(2, .cells 29 (.lst [.bool false,y])),(1, .cells 29 (.lst [.bool false, .nils])),(0, .cells 29 (.lst [.bool false,tmA p]))]) ?_ ?_
 ·refine ⟨_,_,_,Wk.sub ?_ ?_,0,[], .nils,by omega,rfl,bZ.nil.congr fun x=>rfl, .inr ⟨rfl,rfl⟩,rfl,rfl⟩
  ·simp only [go_sem,sevalprocAttr]
  ·(simp only [go_sem,sevalprocAttr,yap])<;>rfl
 rintro n fr H ⟨k,q,y,hk,rfl,hq,hy,rfl,rfl⟩;by_cases fW:k<N
 ·have bk:decide (lo+(k:Int)<=hi)=true:=by rw [decide_eq_true_iff];omega
  have hC:=JV p (lo+k) h.asc (by omega);rw [h.cf] at hC;by_cases h0:f (lo+k)=0
  ·have b0:(f (lo+k)!=0)=false:=by rw [h0];rfl
   have pd:bZ q (fun x=>rA f to lo (k+1) x):=hq.congr fun x=>by
    unfold rA;simp only [sm];rw [h0]
    split<;>omega
   rcases hy with rfl|⟨rfl,rfl⟩
   ·repeat' (first|omega|(try apply ag);simp only [go_sem,sevalprocAttr,bk,b0]|(refine ⟨aA.fn (r:=?_) rfl ?_ ?_⟩;rotate_left;assumption)|(refine ⟨bC.fn (r:=?_) rfl ?_ ?_⟩;rotate_left;assumption)|apply ah<;>(intro h_;(try simp only [h_]);revert h_)|apply ai|apply aj|apply ae|apply And.intro|with_reducible intro h_|trivial|simp only [go_sem,ak];omega)
    refine ⟨_,_,_,?_,Wk.sub ?_ ?_,k+1,q,_,by omega,rfl,pd, .inl rfl,rfl,rfl⟩
    ·omega
    ·(simp only [go_sem,sevalprocAttr])<;>omega
    ·(simp only [go_sem,sevalprocAttr,yap])<;>rfl
   ·repeat' (first|omega|(try apply ag);simp only [go_sem,sevalprocAttr,bk,b0]|(refine ⟨aA.fn (r:=?_) rfl ?_ ?_⟩;rotate_left;assumption)|(refine ⟨bC.fn (r:=?_) rfl ?_ ?_⟩;rotate_left;assumption)|apply ah<;>(intro h_;(try simp only [h_]);revert h_)|apply ai|apply aj|apply ae|apply And.intro|with_reducible intro h_|trivial|simp only [go_sem,ak];omega)
    refine ⟨_,_,_,?_,Wk.sub ?_ ?_,k+1,[],_,by omega,rfl,pd, .inr ⟨rfl,rfl⟩,rfl,rfl⟩
    ·omega
    ·(simp only [go_sem,sevalprocAttr])<;>omega
    ·(simp only [go_sem,sevalprocAttr,yap])<;>rfl
  ·have b0:(f (lo+k)!=0)=true:=by rw [bne_iff_ne];exact h0
   have mq:=hb (lo+k);obtain ⟨lQ,bD⟩:=zN (lo+k) (by omega) (by omega);have hT:=Zs (f (lo+k)) (to (lo+k)) (by omega) bD;have ht:=Mk (f (lo+k)) (to (lo+k));obtain ⟨r,hr,hA⟩:=L9 hq ht (uu k) (fun e he=>by
    by_cases h1:e=to (lo+k)
    ·rw [h1];exact bD
    ·rw [if_neg h1] at he;exact absurd rfl he) (fun e=>by have:=XZ k e;omega) (fun e=>by split<;>omega)
   have iM:bZ r (fun x=>rA f to lo (k+1) x):=hr.congr fun x=>by
    unfold rA;simp only [sm];congr 1;by_cases h1:x=to (lo+k)
    ·rw [if_pos h1,if_pos h1.symm]
    ·rw [if_neg h1,if_neg (Ne.symm h1)]
   rcases hy with rfl|⟨rfl,rfl⟩
   ·repeat' (first|omega|(first|apply ag|(refine an.intro (id:=7) Gc [[],[0],[0,1],[0,1,2],[0,1],[0],[],[]] (by decide+kernel) mixed ?_)|skip);simp only [go_sem,sevalprocAttr,bk,b0,↓reduceIte,reduceCtorEq,Gc]|(refine ⟨aA.fn (r:=?_) rfl ?_ ?_⟩;rotate_left;assumption)|(refine ⟨bC.fn (r:=?_) rfl ?_ ?_⟩;rotate_left;assumption)|apply ah<;>(intro h_;(try simp only [h_]);revert h_)|apply ai|apply aj|apply ae|apply And.intro|with_reducible intro h_|trivial|simp only [go_sem,ak];omega)
    refine ⟨_,_,_,?_,Wk.sub ?_ ?_,k+1,r,_,by omega,rfl,iM, .inl rfl,rfl,rfl⟩
    ·omega
    ·(simp only [go_sem,sevalprocAttr])<;>omega
    ·(simp only [go_sem,sevalprocAttr,yap])<;>rfl
   ·have hA':Fn Tryz.prog 130 [.agg [.bool false, .nils],plA false (B6 (f (lo+k)) (to (lo+k)))] (plA false r):=hA.arg (.cons (aR.js (.cons (aR.refl _) (.cons (aR.nils (by decide) rfl) .nil))) (.cons (aR.refl _) .nil))
    repeat' (first|omega|(first|apply ag|(refine an.intro (id:=7) Gc [[],[0],[0,1],[0,1,2],[0,1],[0],[],[]] (by decide+kernel) mixed ?_)|skip);simp only [go_sem,sevalprocAttr,bk,b0,↓reduceIte,reduceCtorEq,Gc]|(refine ⟨aA.fn (r:=?_) rfl ?_ ?_⟩;rotate_left;assumption)|(refine ⟨bC.fn (r:=?_) rfl ?_ ?_⟩;rotate_left;assumption)|apply ah<;>(intro h_;(try simp only [h_]);revert h_)|apply ai|apply aj|apply ae|apply And.intro|with_reducible intro h_|trivial|simp only [go_sem,ak];omega)
    refine ⟨_,_,_,?_,Wk.sub ?_ ?_,k+1,r,_,by omega,rfl,iM, .inl rfl,rfl,rfl⟩
    ·omega
    ·(simp only [go_sem,sevalprocAttr])<;>omega
    ·(simp only [go_sem,sevalprocAttr,yap])<;>rfl
 ·obtain rfl:k=N:=by omega
  have bk:decide (lo+(k:Int)<=hi)=false:=by rw [decide_eq_false_iff_not];omega
  have e1:=hq.eq (uu k);rw [←e1];rcases hy with rfl|⟨rfl,rfl⟩
  ·repeat' (first|omega|(try apply ag);simp only [go_sem,sevalprocAttr,bk]|(refine ⟨aA.fn (r:=?_) rfl ?_ ?_⟩;rotate_left;assumption)|(refine ⟨bC.fn (r:=?_) rfl ?_ ?_⟩;rotate_left;assumption)|apply ah<;>(intro h_;(try simp only [h_]);revert h_)|apply ai|apply aj|apply ae|apply And.intro|with_reducible intro h_|trivial|simp only [go_sem,ak];omega)
   all_goals exact aR.refl _
  ·repeat' (first|omega|(try apply ag);simp only [go_sem,sevalprocAttr,bk]|(refine ⟨aA.fn (r:=?_) rfl ?_ ?_⟩;rotate_left;assumption)|(refine ⟨bC.fn (r:=?_) rfl ?_ ?_⟩;rotate_left;assumption)|apply ah<;>(intro h_;(try simp only [h_]);revert h_)|apply ai|apply aj|apply ae|apply And.intro|with_reducible intro h_|trivial|simp only [go_sem,ak];omega)
   all_goals exact aR.js (.cons (aR.refl _) (.cons (aR.nils (es:=2) (by decide) rfl) .nil))
theorem JO: ∀(j:Nat) (x:Int),dpw j x≠0->(x+2*j)% 4=0
 |0,x,h=>by
  simp only [dpw] at h;by_cases h0:x=0
  ·rw [h0];rfl
  ·rw [if_neg h0] at h;exact absurd rfl h
 |j+1,x,h=>by
  simp only [dpw,cS] at h;by_cases h1:dpw j (x+2)=0
  ·have:=JO j (x-2) (fun h2=>h (by rw [h1,h2];rfl))
   omega
  ·have:=JO j (x+2) h1
   omega
theorem V1 {s:List Int} (hs:ru s s.length): ∀c,c<=s.length->bq s c=c-2*(difS false (fun c=>s.getD c 0== -1) c:Int):=fun c=>by
 induction c with
 |zero=>intro _;simp [bq,difS]
 |succ c ih=>
  intro hc;have h1:=ih (by omega);simp only [bq,difS];rcases hs c (by omega) with e|e
  ·have:((s.getD c 0== -1)=false):=by rw [e];rfl
   rw [if_pos this];omega
  ·have: ¬((s.getD c 0== -1)=false):=by rw [e];decide
   rw [if_neg this];omega
theorem j6 (x:Int):(x % 2=0->2*x.tdiv 2=x)/\(-1000<=x->x<=1000-> -1000<=x.tdiv 2/\x.tdiv 2<=1000):=by
 by_cases h:0<=x
 ·rw [Int.tdiv_eq_ediv_of_nonneg h];omega
 ·obtain ⟨y,rfl⟩: ∃y,x= -y:=⟨-x,by omega⟩;rw [Int.neg_tdiv,Int.tdiv_eq_ediv_of_nonneg (by omega)];omega
theorem FP {m:List Int} {n L:Nat} (hp:aE m n) (h0: ¬(n=0/\L=0)) (k:Nat):1<=cN m n L k:=by
 unfold cN;by_cases hn:0<n
 ·have:=vU hp (cA k) hn;omega
 ·omega
theorem JN {s m:List Int} {L:Nat} (hv:bF s m L=true) (az: ¬(s.length=0/\L=0)) {e:Int} (he:dZ m s.length L (bq s s.length) e≠0):(e-2*(((a8 s m).length:Int)+L-1))% 4=0:=by
 have hp:=bP hv;have hw:=V1 (cK hv).sg s.length (Nat.le_refl _);generalize bq s s.length=w at*;have hb:aU m s.length L 1 (e+3*w)≠0:=fun h=>he (by unfold dZ;rw [h];omega);obtain ⟨k,_,hk⟩:=F7 hb;have hc:=FP hp az k;rw [if_pos hc] at hk;have h1:=JO _ _ hk;have h2:=M7 hv (cA k);rw [←tb] at h2;unfold cN at h1 hc;unfold wB at h1;omega
theorem Z5 (e:Int) (h0: -1000<=e) (h1:e<=1000):Fn Tryz.prog 73 [I e] (I ((0-e).tdiv 2)):=by
 have hr:=(j6 (0-e)).2 (by omega) (by omega);refine Fn.intro [.tmp 2] Tryz.func73 rfl rfl (by decide) (by simp [Tryz.ntmps73]) ?_;rw [Tryz.ntmps73]
 repeat' (first|omega|(try apply ag);simp only [go_sem,sevalprocAttr]|apply ah<;>(intro h_;(try simp only [h_]);revert h_)|apply ai|apply aj|apply ae|apply And.intro|with_reducible intro h_|trivial|simp only [go_sem,ak];omega)
def fP (m:List Int) (n L:Nat) (w x:Int):Int:=dZ m n L w (-(2*x))
theorem RQ (s m:List Int) (L:Nat) (hs:s.length<=9) (hL:L<=20) (hv:bF s m L=true) (az: ¬(s.length=0/\L=0)):Fn Tryz.prog 24 [dgA s m L] (.tup [plA false (dN (fP m s.length L (bq s s.length))),I 0]):=by
 have hP:=pJ s m L hs hL hv az;have hp:=bP hv;have v1:=cK hv;have sI:=rh v1.sg s.length (Nat.le_refl _);have ez:=fun e (he:dZ m s.length L (bq s s.length) e≠0)=>JN hv az he;generalize bq s s.length=w at*;have hj:=se (w:=w) hp hs hL (by omega);have iK:=fun e (he:dZ m s.length L w e≠0)=>mL hp hs hL (by omega) he
 obtain ⟨r,hr,hT⟩:=LK (cW m s.length L w) (dZ m s.length L w) (fun e=>(0-e).tdiv 2) 73 hj (fun e he=>by have:=iK e he;omega) (CZ hp hs hL) (fun a b ha hb fC=>by
  have:=ez a ha;have:=ez b hb;have:=(j6 (0-a)).1 (by omega);have:=(j6 (0-b)).1 (by omega);omega) (fun e h0 h1=>⟨Z5 e h0 h1,(j6 _).2 (by omega) (by omega)⟩)
 have Ix: ∀e,dZ m s.length L w e≠0->gK (cW m s.length L w)<=e/\e<gK (cW m s.length L w)+(ph (cW m s.length L w)-gK (cW m s.length L w)+1).toNat:=fun e he=>by
  have h1:=hj.cf e;obtain ⟨t,ht,rfl⟩:=Gh (by rw [h1];exact he);have hlen:0<(cW m s.length L w).length:=List.length_pos_of_mem ht
  have:=uV hj.asc ht
  unfold gK ph;rw [if_pos hlen,if_pos hlen];omega
 have iM:bZ r (fP m s.length L w):=hr.congr fun x=>by
  by_cases h0:dZ m s.length L w (-(2*x))=0
  ·rw [KB fun e he hex=>?_]
   ·unfold fP;rw [h0]
   ·have:=ez e he
    have:=(j6 (0-e)).1 (by omega)
    have:e= -(2*x):=by omega
    rw [this] at he;exact he h0
  ·rw [Jc Ix (fun a b ha hb fC=>by have:=ez a ha;have:=ez b hb;have:=(j6 (0-a)).1 (by omega);have:=(j6 (0-b)).1 (by omega);omega) (e:= -(2*x)) (by have:=(j6 (0- -(2*x))).1 (by omega);omega) h0];rfl
 have e1:=iM.eq fun e he=>by have:=iK _ he;omega
 rw [e1] at hT;generalize cW m s.length L w=p at*;generalize dN (fP m s.length L w)=q at*;refine Fn.aq [.cell 2 29, .tmp 3] Tryz.func24 rfl rfl (by decide) (by simp [Tryz.ntmps24]) ?_;rw [Tryz.ntmps24]
 repeat' (first|omega|(try apply ag);simp only [go_sem,sevalprocAttr,hP]|(refine ⟨aA.fn (r:=?_) rfl ?_ ?_⟩;rotate_left;assumption)|(refine ⟨bC.fn (r:=?_) rfl ?_ ?_⟩;rotate_left;assumption)|apply ah<;>(intro h_;(try simp only [h_]);revert h_)|apply ai|apply aj|apply ae|apply And.intro|with_reducible intro h_|trivial|simp only [go_sem,ak];omega)
 all_goals exact aR.refl _
end Go.Proofs.YtphjphpmfflfpaaGreatDoor
set_option linter.unusedSimpArgs false
set_option linter.unusedVariables false
namespace Go.Proofs.YtphjphpmfflfpaaGreatDoor
open Go Go.RowKit Go.Shelf
set_option maxHeartbeats 4000000
set_option maxRecDepth 100000
theorem V0:(Tryz.prog.info? 93).map (·.size)=some 2:=by kernel_rfl
theorem M6:liesAt Tryz.prog Tryz.prog.depth 93 (2/Tryz.prog.cellsOf 93) 0 93 1=true:=by kernel_rfl
theorem Jb:Tryz.prog.underlying 90=some (.pointer 93):=by kernel_rfl
theorem UT:Tryz.prog.underlying 176=some .unsafePointer:=by kernel_rfl
theorem RP:(Tryz.prog.info? 5).map (fun i=>(i.zero,i.size,i.bytes))=some (some (.int .u8 0),1,1):=by kernel_rfl
theorem VZ:Tryz.prog.underlying 91=some (.slice 5):=by kernel_rfl
theorem DN:Tryz.prog.underlying 9=some .string:=by kernel_rfl
theorem Zr (b:Nat) (w:World) (h0:w.cell? ⟨b,0,none⟩=some (.pointer (some ⟨b,0,none⟩))):
  Calls Tryz.prog 132 #[.pointer (some ⟨b,0,none⟩)] w fun e w'=>e= .returned (.tuple #[])/\w'=w:=by
 obtain ⟨j,hj,_⟩:=Option.map_eq_some_iff.1 V0
 go_enter Tryz.func132,Tryz.ntmps132
 go_wp2
 rw [Lib.run_neq_ptr_same w _ Jb hj]
 go_wp2
 go_end0
 exact ⟨rfl,rfl⟩
theorem Z4 (b:Nat) (w:World) (h0:w.cell? ⟨b,0,none⟩=some (.pointer none)) (Xf:w.shape? b=some (93,2)) (hfz:w.frozen? ⟨b,0,none⟩=false):
  Calls Tryz.prog 132 #[.pointer (some ⟨b,0,none⟩)] w fun e w'=>e= .returned (.tuple #[])/\w'=w.setCell ⟨b,0,none⟩ (.pointer (some ⟨b,0,none⟩)):=by
 obtain ⟨j,hj,hjs⟩:=Option.map_eq_some_iff.1 V0
 go_enter Tryz.func132,Tryz.ntmps132
 go_wp2
 rw [Lib.run_to_unsafe w ⟨b,0,none⟩ Jb UT hj (by rw [hjs];decide) Xf (Nat.zero_lt_succ 1)];simp only [Result.andThen];rw [Oper.upon_value]
 go_wp2
 rw [run_callFunc_extern Tryz.func169 (by kernel_rfl) (by kernel_rfl) (by kernel_rfl) (e:=Extern.AbiNoEscape.same) (by kernel_rfl)];rw [Lib.run_noEscape];simp only [Result.andThen];rw [Oper.upon_value]
 go_wp2
 rw [Lib.run_from_unsafe w ⟨b,0,none⟩ UT Jb hj Xf M6];simp only [Result.andThen];rw [Oper.upon_value]
 go_wp2
 go_end0
 exact ⟨rfl,rfl⟩
theorem Tx (B b:Nat) (bs:List Value) (w:World) (h:Lib.IsBuilderF 93 5 B b bs w):
  Calls Tryz.prog 132 #[.pointer (some ⟨b,0,none⟩)] w fun e w'=>e= .returned (.tuple #[])/\(Lib.BuilderAtF 93 5 B b (.pointer (some ⟨b,0,none⟩)) bs w'/\Below B w w'/\Lib.OthersKept 5 (some b) w w'):=by
 rcases h with h|h
 ·refine (Z4 b w h.cell0 h.shape h.frozen0).mono ?_;rintro e w' ⟨rfl,rfl⟩;exact ⟨rfl,h.used _,(Below.refl B w).setCell (p:=⟨b,0,none⟩) h.1 _,(Lib.OthersKept.refl _ _ w).setCell ⟨b,0,none⟩ rfl _⟩
 ·refine (Zr b w h.cell0).mono ?_;rintro e w' ⟨rfl,rfl⟩;exact ⟨rfl,h,Below.refl B _,Lib.OthersKept.refl _ _ _⟩
theorem OH (B b:Nat) (bs:List Value) (c:Int) (w:World) (h:Lib.IsBuilderF 93 5 B b bs w) (hlen:bs.length+1<=140737488355328) (hBw:B<=w.heap.size):
  Calls Tryz.prog 81 #[.pointer (some ⟨b,0,none⟩), .int .u8 c] w fun e w'=>e= .returned .nilIface/\(Lib.BuilderAtF 93 5 B b (.pointer (some ⟨b,0,none⟩)) (bs++[.int .u8 c]) w'/\Below B w w'/\Lib.OthersKept 5 (some b) w w'):=by
 obtain ⟨i0,hi,je,kr,j8⟩:=info_parts RP
 go_enter Tryz.func81,Tryz.ntmps81
 go_wp2_with (go_at_call 132;refine (Tx B b bs _ h).mono ?_)
 rintro e w1 ⟨rfl,h1,gZ,jG⟩;obtain ⟨hB,v,pt,gS,az⟩:=h1;have c0:w1.cell? ⟨b,0,none⟩=some (.pointer (some ⟨b,0,none⟩)):=by rw [Lib.cell_of_heap pt];rfl
 have c1:w1.cell? ⟨b,1,none⟩=some v:=by rw [Lib.cell_of_heap pt];rfl
 go_wp2_with (at_builtin;refine wpList_append_ownF _ rfl _ _ 91 rfl B 5 i0 (.int .u8 0) 1 1 VZ hi je kr j8 rfl (by decide) _ _ _ rfl (gS.alloc _) ⟨w1.heap.size,0,none⟩ 1 1 [.int .u8 c] rfl rfl ?c1 ?c2 ?c3 ?c4 ?c5 ?_)
 case c1=>
  intro j u hj
  match j,hj with
  |0,hj=>simp at hj;subst hj;simp [Addr.add]
 case c2=>intro u hu;simp at hu;subst hu;rfl
 case c3=>unfold maxLen;omega
 case c4=>omega
 case c5=>have:=gZ.size;simp;omega
 intro v' w2 oH kH _;have aG:b<w1.heap.size:=by
  rcases Nat.lt_or_ge b w1.heap.size with h'|h'
  ·exact h'
  ·simp [Array.getElem?_eq_none h'] at pt
 have mv:w2.heap[b]?=some (.cells #[.pointer (some ⟨b,0,none⟩),v] 93 (0,0)):=by
  rw [kH.block b (by simp;omega) (fun e=>az e.symm),Lib.alloc_old w1 _ b aG];exact pt
 have d0:w2.cell? ⟨b,0,none⟩=some (.pointer (some ⟨b,0,none⟩)):=by rw [Lib.cell_of_heap mv];rfl
 have d1:w2.cell? ⟨b,1,none⟩=some v:=by rw [Lib.cell_of_heap mv];rfl
 have f1:w2.frozen? ⟨b,1,none⟩=false:=Lib.frozen_of_heap mv 1;obtain ⟨g,cap,rfl⟩: ∃g cap,v'= .slice (some ⟨g,0,none⟩) (bs.length+1) cap:=by
  rcases oH.2 with ⟨_,h0⟩|⟨g,cap,cur,fz,hv,_⟩
  ·omega
  ·exact ⟨g,cap,hv⟩
 go_wp2
 go_ret
 refine ⟨rfl,?_,?_,((jG.alloc _).grown kH (Lib.ownsRowF_kind (gS.alloc _))).setCell ⟨b,1,none⟩ rfl _⟩
 ·exact Lib.BuilderAtF.put (T:=93) (e:=5) hB mv (bs':=bs++[.int .u8 c]) (by simpa using oH) (by decide)
 ·exact ((gZ.alloc (by have:=gZ.size;omega) _).grown kH (by have:=gZ.size;simp;omega) (fun k hk=>(gS.lt k hk).1)).setCell (p:=⟨b,1,none⟩) hB _
theorem VY (B b:Nat) (bs:List Value) (s:ByteArray) (w:World) (h:Lib.IsBuilderF 93 5 B b bs w) (hlen:bs.length+s.size<=140737488355328) (hBw:B<=w.heap.size):
  Calls Tryz.prog 74 #[.pointer (some ⟨b,0,none⟩), .string s] w fun e w'=>e= .returned (.tuple #[.int .i64 s.size, .nilIface])/\(Lib.BuilderAtF 93 5 B b (.pointer (some ⟨b,0,none⟩)) (bs++Lib.strCells s) w'/\Below B w w'/\Lib.OthersKept 5 (some b) w w'):=by
 obtain ⟨i0,hi,je,kr,j8⟩:=info_parts RP
 go_enter Tryz.func74,Tryz.ntmps74
 go_wp2_with (go_at_call 132;refine (Tx B b bs _ h).mono ?_)
 rintro e w1 ⟨rfl,h1,gZ,jG⟩;obtain ⟨hB,v,pt,gS,az⟩:=h1;have c0:w1.cell? ⟨b,0,none⟩=some (.pointer (some ⟨b,0,none⟩)):=by rw [Lib.cell_of_heap pt];rfl
 have c1:w1.cell? ⟨b,1,none⟩=some v:=by rw [Lib.cell_of_heap pt];rfl
 go_wp2_with (at_builtin;refine Lib.wpList_append_own_stringF _ rfl _ _ 91 9 rfl B 5 i0 VZ DN hi je kr j8 _ _ _ rfl gS s rfl ?c3 ?c4 ?c5 ?_)
 case c3=>unfold maxLen;omega
 case c4=>omega
 case c5=>have:=gZ.size;omega
 intro v' w2 oH kH _;have aG:b<w1.heap.size:=by
  rcases Nat.lt_or_ge b w1.heap.size with h'|h'
  ·exact h'
  ·simp [Array.getElem?_eq_none h'] at pt
 have mv:w2.heap[b]?=some (.cells #[.pointer (some ⟨b,0,none⟩),v] 93 (0,0)):=by
  rw [kH.block b aG (fun e=>az e.symm)];exact pt
 have d0:w2.cell? ⟨b,0,none⟩=some (.pointer (some ⟨b,0,none⟩)):=by rw [Lib.cell_of_heap mv];rfl
 have d1:w2.cell? ⟨b,1,none⟩=some v:=by rw [Lib.cell_of_heap mv];rfl
 have f1:w2.frozen? ⟨b,1,none⟩=false:=Lib.frozen_of_heap mv 1;obtain ⟨ao,n',cap,rfl⟩: ∃ao n' cap,v'= .slice ao n' cap:=by
  rcases oH.2 with ⟨hv,_⟩|⟨g,cap,cur,fz,hv,_⟩
  ·exact ⟨_,_,_,hv⟩
  ·exact ⟨_,_,_,hv⟩
 go_wp2
 go_ret2
 refine ⟨rfl,?_,?_,(jG.grown kH (Lib.ownsRowF_kind gS)).setCell ⟨b,1,none⟩ rfl _⟩
 ·exact Lib.BuilderAtF.put (T:=93) (e:=5) hB mv (bs':=bs++Lib.strCells s) (by simpa [Lib.strCells_length] using oH) (by decide)
 ·exact (gZ.grown kH (by have:=gZ.size;omega) (fun k hk=>(gS.lt k hk).1)).setCell (p:=⟨b,1,none⟩) hB _
structure TS (w:World) (b K:Nat) (e c:Int) (acc:List UInt8) (W:World):Prop where
 bld:Lib.IsBuilderF 93 5 w.heap.size b (Lib.byteCells acc) W
 row:W.heap[K]?=some (.cells #[.int .i64 e, .int .i64 c] 75 (0,0))
 ne:K≠b
 bel:Below w.heap.size w W
section
variable {w W:World} {b K:Nat} {e c:Int} {acc:List UInt8}
theorem TS.c0 (h:TS w b K e c acc W):W.cell? ⟨K,0,none⟩=some (.int .i64 e):=by rw [Lib.cell_of_heap h.row];rfl
theorem TS.c1 (h:TS w b K e c acc W):W.cell? ⟨K,1,none⟩=some (.int .i64 c):=by rw [Lib.cell_of_heap h.row];rfl
theorem TS.Ei (h:TS w b K e c acc W) {W':World} (hk:Lib.OthersKept 5 (some b) W W'):W'.heap[K]?=some (.cells #[.int .i64 e, .int .i64 c] 75 (0,0)):=
 hk K _ h.row (fun q=>h.ne (Option.some.inj q)) (fun x fz q=>by simp at q)
theorem TS.byte (h:TS w b K e c acc W) (x:UInt8) (n:Int) (hx:(x.toNat:Int)=n) (hl:acc.length<=100000000000):
  Calls Tryz.prog 81 #[.pointer (some ⟨b,0,none⟩), .int .u8 n] W fun r W'=>r= .returned .nilIface/\TS w b K e c (acc++[x]) W':=by
 subst hx;refine (OH w.heap.size b _ x.toNat W h.bld (by rw [Lib.byteCells_length];omega) h.bel.size).mono ?_;rintro r W' ⟨rfl,h1,h2,h3⟩;exact ⟨rfl,by rw [Lib.byteCells_append];exact .inr h1,h.Ei h3,h.ne,h.bel.trans h2⟩
theorem TS.str (h:TS w b K e c acc W) (s:ByteArray) (hl:acc.length<=100000000000) (hs:s.size<=100000):
  Calls Tryz.prog 74 #[.pointer (some ⟨b,0,none⟩), .string s] W fun r W'=>r= .returned (.tuple #[.int .i64 s.size, .nilIface])/\TS w b K e c (acc++s.data.toList) W':=by
 refine (VY w.heap.size b _ s W h.bld (by rw [Lib.byteCells_length];omega) h.bel.size).mono ?_;rintro r W' ⟨rfl,h1,h2,h3⟩;exact ⟨rfl,by rw [Lib.byteCells_append];exact .inr h1,h.Ei h3,h.ne,h.bel.trans h2⟩
theorem Tw {B b:Nat} {bs:List Value} {W W':World} (h:Lib.IsBuilderF 93 5 B b bs W) (hb:Below W.heap.size W W'):Lib.IsBuilderF 93 5 B b bs W':=by
 have key: ∀p,Lib.BuilderAtF 93 5 B b p bs W->Lib.BuilderAtF 93 5 B b p bs W':=by
  rintro p ⟨h1,v,h2,h3,h4⟩;refine ⟨h1,v,?_,?_,h4⟩
  ·rw [hb.block b (Array.getElem?_eq_some_iff.1 h2).1];exact h2
  ·refine ⟨h3.1,?_⟩;rcases h3.2 with hn|⟨g,cap,cur,fz,rfl,g1,g2,rest⟩
   ·exact .inl hn
   ·exact .inr ⟨g,cap,cur,fz,rfl,g1,by rw [hb.block g (Array.getElem?_eq_some_iff.1 g2).1];exact g2,rest⟩
 exact h.imp (key _) (key _)
theorem TS.itoa (h:TS w b K e c acc W) (hg:Good w) (n:Int) (h0: -9223372036854775808<=n) (h1:n<=9223372036854775807):
  Calls Tryz.prog 82 #[.int .i64 n] W fun r W'=>r= .returned (.string ⟨(Lib.itoa n).toArray⟩)/\TS w b K e c acc W':=by
 refine (Tryz.strconv_Itoa n h0 h1 W (hg.later h.bel)).mono ?_;rintro r W' ⟨rfl,k,os,rfl⟩;have hb:=Lib.below_grow W.heap.size W (Nat.le_refl _) k os;exact ⟨rfl,Tw h.bld hb,by rw [hb.block K (Array.getElem?_eq_some_iff.1 h.row).1];exact h.row,h.ne,h.bel.trans ⟨hb.os,hb.tape,hb.output,hb.size,fun j hj=>hb.block j (by have:=h.bel.size;omega)⟩⟩
theorem TS.string (h:Lib.IsBuilderF 93 5 w.heap.size b (Lib.byteCells acc) W) (hb:Below w.heap.size w W):
  Calls Tryz.prog 77 #[.pointer (some ⟨b,0,none⟩)] W fun r W'=>r= .returned (.string ⟨acc.toArray⟩)/\Below w.heap.size w W':=by
 refine (Tryz.Builder_String_any_k w.heap.size b acc W h hb.size).mono ?_;rintro r W' ⟨rfl,_,h2,_⟩;exact ⟨rfl,hb.trans h2⟩
end
def kg (name:List UInt8) (i:Nat) (e c:Int):List UInt8:=
 (if c<0 then [45] else if 0<i then [43] else [])++((if (if c<0 then 0-c else c)=1/\e≠0 then [] else Lib.itoa (if c<0 then 0-c else c))++((if e=0 then [] else name)++(if e=0\/e=1 then [] else 94::Lib.itoa e)))
def txtN (name:List UInt8) (p:List (Int×Int)):Nat->List UInt8
 |0=>[]
 |k+1=>txtN name p k++kg name k (p.getD k (0,0)).1 (p.getD k (0,0)).2
theorem xv {n:Int} (h0: -9223372036854775808<=n) (h1:n<=9223372036854775807):(Lib.itoa n).length<=21:=Lib.itoa_length_le n h0 h1
end Go.Proofs.YtphjphpmfflfpaaGreatDoor
