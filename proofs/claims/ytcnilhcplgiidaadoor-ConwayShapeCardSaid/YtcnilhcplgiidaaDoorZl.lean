/- The split union of two diagrams; its polynomial is 0. -/
import Derived.Test.YtcnilhcplgiidaaDoorSr
import Derived.Test.YtcnilhcplgiidaaDoorZk
set_option linter.unusedSimpArgs false
set_option linter.unusedVariables false
namespace Go.Proofs.YtcnilhcplgiidaaDoor
namespace Sp
section
variable {s s1 s2 m m1 m2:List Int} {L L1 L2:Int} {n c k:Nat}
structure Spl (s m:List Int) (col:Nat->Bool) (LA LB:Int):Prop where
 cl: ∀x,x<4*s.length->col (alD m x/4)=col (x/4)
 a0:0<=LA
 b0:0<=LB
 ha:(∃c,c<s.length/\col c=true)\/0<LA
 hb:(∃c,c<s.length/\col c=false)\/0<LB
variable {col:Nat->Bool} {LA LB:Int}
theorem ynz {N:Nat} {want:Int->Bool} {orb:Int->List Int} (hr: ∀x:Nat,x<N->(x:Int)∈orb x/\ ∀g∈orb x,0<=g/\g<N): ∀h,h<=N->
  (∀y:Nat,(cysN N want orb h).2.getD y false=true-> ∃l∈(cysN N want orb h).1,(y:Int)∈l)/\(∀x:Nat,x<h->want x=true-> ∃l∈(cysN N want orb h).1,(x:Int)∈l)
 |0,_=>by
  refine ⟨fun y hy=>?_,fun x hx=>by omega⟩
  simp only [cysN] at hy
  rw [List.getD_eq_getElem?_getD,List.getElem?_replicate] at hy
  split at hy<;>simp at hy
 |h+1,hh=>by
  obtain ⟨i1,i2⟩:=ynz hr h (by omega)
  have hln:=(yfi N want orb h).1
  simp only [cysN,cys1]
  by_cases hq:((cysN N want orb h).2.getD h false|| !want h)=true
  ·rw [if_pos hq]
   refine ⟨i1,fun x hx hw=>?_⟩
   by_cases hxh:x<h
   ·exact i2 x hxh hw
   ·obtain rfl:x=h:=by omega
    rw [hw] at hq
    exact i1 x (by simpa using hq)
  ·rw [if_neg hq]
   have hrh:=hr h (by omega)
   refine ⟨fun y hy=>?_,fun x hx hw=>?_⟩
   ·simp only at hy
    rw [ycz _ _ _ (fun g hg=>by have:=hrh.2 g hg;omega),Bool.or_eq_true,decide_eq_true_iff] at hy
    rcases hy with hy|hy
    ·obtain ⟨l,h1,h2⟩:=i1 y hy;exact ⟨l,by simp [h1],h2⟩
    ·exact ⟨orb h,by simp,hy⟩
   ·by_cases hxh:x<h
    ·obtain ⟨l,h1,h2⟩:=i2 x hxh hw;exact ⟨l,by simp [h1],h2⟩
    ·obtain rfl:x=h:=by omega
     exact ⟨orb x,by simp,hrh.1⟩
theorem Spl.col_it (h:Spl s m col LA LB) (v:ybj s m L) {x:Nat} (hx:x<4*s.length): ∀j,∃y:Nat,y<4*s.length/\it (yah m) j x=y/\col (y/4)=col (x/4)
 |0=>⟨x,hx,rfl,rfl⟩
 |j+1=>by
  obtain ⟨y,h1,h2,h3⟩:=h.col_it v hx j
  obtain ⟨e1,e2⟩:=ygc v h1
  refine ⟨opN (alD m y),e2,?_,?_⟩
  ·show yah m (it (yah m) j x)=_
   rw [h2,e1]
  ·rw [show opN (alD m y)/4=alD m y/4 by unfold opN;omega,h.cl y h1,h3]
theorem Spl.two (h:Spl s m col LA LB) (hv:yaj s m (LA+LB)=true):2<=((yae s m).length:Int)+(LA+LB):=by
 have v:=yat hv
 have h1:=h.a0
 have h2:=h.b0
 rcases h.ha with ⟨a,ha,ca⟩|ha
 ·have hp:=strands_pos v (by omega)
  rcases h.hb with ⟨b,hb,cb⟩|hb
  ·have hr: ∀x:Nat,x<4*s.length->(x:Int)∈orbF (yah m) m.length x/\ ∀g∈orbF (yah m) m.length x,0<=g/\g<(4*s.length:Nat):=fun x hx=>by
    have hR:InR s.length (x:Int):=by unfold InR;omega
    have:=yb2 (yb5 v.prd) hR
    rw [←v.len] at this
    refine ⟨this.2.2.2.2.1,fun g hg=>?_⟩
    have:=this.2.1 g hg
    unfold InR at this;omega
   have hcov:=(ynz (want:=outB s) (orb:=orbF (yah m) m.length) hr (4*s.length) (Nat.le_refl _)).2
   rw [←v.len] at hcov
   have wo: ∀c:Nat,outB s ((4*c+2:Nat):Int)=true:=fun c=>by unfold outB;rw [show (((4*c+2:Nat):Int))% 4=2 by omega];simp
   obtain ⟨la,a1,a2⟩:=hcov (4*a+2) (by rw [v.len];omega) (wo a)
   obtain ⟨lb,b1,b2⟩:=hcov (4*b+2) (by rw [v.len];omega) (wo b)
   have hcol: ∀l∈yae s m,∀x y:Nat,(x:Int)∈l->(y:Int)∈l->col (x/4)=col (y/4):=fun l hl x y hx hy=>by
    obtain ⟨z,z1,_,rfl⟩:=ygx _ l hl
    rw [v.len] at z1 hx hy
    have hR:InR s.length (z:Int):=by unfold InR;omega
    have hof:=(yb2 (yb5 v.prd) hR).1
    obtain ⟨i,hi⟩:=(hof _).1 hx
    obtain ⟨j,hj⟩:=(hof _).1 hy
    obtain ⟨x',_,e1,e2⟩:=h.col_it v z1 i
    obtain ⟨y',_,e3,e4⟩:=h.col_it v z1 j
    rw [hi] at e1
    rw [hj] at e3
    obtain rfl:x=x':=by omega
    obtain rfl:y=y':=by omega
    rw [e2,e4]
   have hne:la≠lb:=fun e=>by
    subst e
    have:=hcol la a1 _ _ a2 b2
    rw [show (4*a+2)/4=a by omega,show (4*b+2)/4=b by omega,ca,cb] at this
    cases this
   have:2<=(yae s m).length:=by
    change la∈yae s m at a1
    change lb∈yae s m at b1
    match hls:yae s m,a1,b1 with
    |[],a1,_=>simp at a1
    |[x],a1,b1=>simp at a1 b1;exact absurd (a1.trans b1.symm) hne
    |_::_::_,_,_=>simp
   omega
  ·omega
 ·rcases h.hb with ⟨b,hb,cb⟩|hb
  ·have hp:=strands_pos v (by omega)
   omega
  ·omega
theorem Spl.switch (h:Spl s m col LA LB) (v:ybj s m L) (hc:c<s.length):Spl (swS s c) (swM s m c) col LA LB:=by
 refine ⟨fun x hx=>?_,h.a0,h.b0,?_,?_⟩
 ·rw [swS_len] at hx
  rw [(yeq v hc hx).1,yga,h.cl _ (ye2 hx),yga]
 ·rw [swS_len];exact h.ha
 ·rw [swS_len];exact h.hb
theorem Spl.flip (h:Spl s m col LA LB):Spl s m (fun c=> !col c) LB LA:=
 ⟨fun x hx=>by rw [h.cl x hx],h.b0,h.a0,by simpa using h.hb,by simpa using h.ha⟩
theorem Spl.thr (h:Spl s m col LA LB) (v:ybj s m L) (hc:c<s.length) {b:Bool}: ∀f x,InR s.length x->col ((thrX m b c f x).toNat/4)=col (x.toNat/4)
 |0,x,_=>rfl
 |f+1,x,hx=>by
  unfold thrX
  split
  ·rename_i e
   have hd:=ybi b x
   have hr:InR s.length (jnB b x):=by unfold InR;omega
   rw [h.thr v hc f _ (v.prd.rng hr)]
   unfold InR at hr hx
   have:=h.cl (jnB b x).toNat (by omega)
   unfold alD at this
   rw [this,show (jnB b x).toNat/4=x.toNat/4 by omega]
  ·rfl
theorem Spl.only (h:Spl s m col LA LB) (v:ybj s m L) (hc:c<s.length) (ho: ∀a,a<s.length->col a=col c->a=c) {b:Bool}:1<=smL m b c s.length:=by
 have hu: ∀k,k<=4*s.length-> ∀x,smU m b c k x=false:=fun k=>by
  induction k with
  |zero=>intro _ x;rfl
  |succ k ih=>
   intro hk x
   simp only [smU]
   by_cases e:k/4=c
   ·rw [if_pos e];exact ih (by omega) x
   ·rw [if_neg e]
    have h1:=h.cl k (by omega)
    have h2:=v.mt k (by omega)
    rw [ykr (fun e'=>e (ho _ (by omega) (by
     rw [←h1];congr 1;unfold alD;omega)))]
    exact ih (by omega) x
 unfold smL
 simp only
 rw [hu _ (Nat.le_refl _)]
 simp only [Bool.false_eq_true,if_false]
 split<;>omega
theorem Spl.smooth (h:Spl s m col LA LB) (hv:yaj s m L=true) (hc:c<s.length) (hcc:col c=true):Spl (smS s c) (smM s m c) (fun k=>col (if k<c then k else k+1)) (LA+smL m (s.getD c 0== -1) c s.length) LB:=by
 have v:=yat hv
 obtain ⟨w1,_⟩:=woS_get (s:=s) (c:=c) s.length
 rw [if_pos hc] at w1
 have hsl:(smS s c).length=s.length-1:=w1
 have hsm:=smL_rng (m:=m) (b:=(s.getD c 0== -1)) (c:=c) (n:=s.length)
 have h1:=h.a0
 obtain ⟨wl,wg⟩:=woM_get (E:=smE m (s.getD c 0== -1) c (4*s.length)) (c:=c) s.length
 rw [if_pos hc] at wl wg
 have idx: ∀a,a<s.length->a≠c-> ∃k,k<s.length-1/\(if k<c then k else k+1)=a:=fun a ha hne=>by
  by_cases hlt:a<c
  ·exact ⟨a,by omega,by rw [if_pos hlt]⟩
  ·exact ⟨a-1,by omega,by rw [if_neg (by omega)];omega⟩
 refine ⟨fun x hx=>?_,by omega,h.b0,?_,?_⟩
 ·rw [hsl] at hx
  obtain ⟨y,hy⟩: ∃y,y=if x/4<c then x else x+4:=⟨_,rfl⟩
  have hyr:y<4*s.length/\y/4≠c:=by rw [hy];split<;>omega
  have hml:=v.len
  have e1:(smM s m c).getD x 0=cutM (smE m (s.getD c 0== -1) c (4*s.length)) c y:=by unfold smM;rw [wg x hx,hy]
  have e2:(smE m (s.getD c 0== -1) c (4*s.length)).getD y 0=thrX m (s.getD c 0== -1) c 5 (m.getD y 0):=smE_get hyr.2 _ (by omega) hyr.1
  have hr0:InR s.length (m.getD y 0):=by have:=v.prd.ok.2 y hyr.1;unfold InR;omega
  have hout:=yd4 (b:=(s.getD c 0== -1)) v.prd hc hyr.1 hyr.2
  have hrng:=ygv (b:=(s.getD c 0== -1)) v.prd hc 5 _ hr0
  have hcol:=h.thr v hc (b:=(s.getD c 0== -1)) 5 _ hr0
  have hcl:=h.cl y hyr.1
  unfold alD at hcl
  unfold cutM at e1
  rw [e2] at e1
  generalize thrX m (s.getD c 0== -1) c 5 (m.getD y 0)=z at*
  unfold InR at hrng
  have e3:(if alD (smM s m c) x/4<c then alD (smM s m c) x/4 else alD (smM s m c) x/4+1)=z.toNat/4:=by
   unfold alD;rw [e1];split<;>split<;>omega
  have e4:(if x/4<c then x/4 else x/4+1)=y/4:=by rw [hy];split<;>omega
  rw [e3,e4,hcol,hcl]
 ·by_cases hl:0<LA
  ·right;omega
  ·by_cases ho: ∃a,a<s.length/\col a=true/\a≠c
   ·obtain ⟨a,a1,a2,a3⟩:=ho
    obtain ⟨k,k1,k2⟩:=idx a a1 a3
    left
    exact ⟨k,by omega,by rw [k2];exact a2⟩
   ·right
    have:=h.only v hc (b:=(s.getD c 0== -1)) (fun a ha e=>Classical.byContradiction fun hne=>ho ⟨a,ha,by rw [e];exact hcc,hne⟩)
    omega
 ·rcases h.hb with ⟨b,hb,cb⟩|hb
  ·obtain ⟨k,k1,k2⟩:=idx b hb (fun e=>by rw [e,hcc] at cb;cases cb)
   left
   exact ⟨k,by omega,by rw [k2];exact cb⟩
  ·exact .inr hb
theorem Spl.zero: ∀(f:Nat) (s m:List Int) (col:Nat->Bool) (LA LB:Int) (q:List Int),Spl s m col LA LB->yaj s m (LA+LB)=true->LA+LB+2*s.length<=62->rfM f s m (LA+LB)=some q-> ∀x∈q,x=0:=by
 intro f
 induction f with
 |zero=>intro s m col LA LB q _ _ _ h;simp [rfM] at h
 |succ f ih=>
  intro s m col LA LB q h hv hL hq
  have v:=yat hv
  unfold rfM at hq
  cases hb:badO s m with
  |none=>
   rw [hb] at hq
   have h2:=h.two hv
   simp only [if_neg (show¬((yae s m).length:Int)+(LA+LB)=1 by omega),Option.some.injEq] at hq
   subst hq
   intro x hx;exact List.mem_singleton.1 hx
  |some c=>
   rw [hb] at hq
   have hcr:=yfl v.prd hb
   obtain ⟨c,rfl⟩: ∃d:Nat,c=d:=⟨c.toNat,by omega⟩
   have hc:c<s.length:=by omega
   simp only [Int.toNat_natCast] at hq
   split at hq
   case h_2=>cases hq
   rename_i p1 q1 e1 e2
   split at hq
   case isFalse=>cases hq
   obtain rfl:=Option.some.inj hq
   have hsm:=smL_rng (m:=m) (b:=(s.getD c 0== -1)) (c:=c) (n:=s.length)
   have hlp:smLp s m c (LA+LB)=LA+LB+smL m (s.getD c 0== -1) c s.length:=rfl
   obtain ⟨w2,l2⟩:=valid_smooth hv hc (by omega)
   have z1:=ih _ _ col LA LB p1 (h.switch v hc) (valid_switch hv hc) (by rw [swS_len];omega) e1
   have z2: ∀x∈q1,x=0:=by
    cases hcc:col c with
    |true=>
     have g:=h.smooth hv hc hcc
     have el:smLp s m c (LA+LB)=LA+smL m (s.getD c 0== -1) c s.length+LB:=by omega
     rw [el] at e2 w2
     exact ih _ _ _ _ _ q1 g w2 (by rw [l2];omega) e2
    |false=>
     have g:=h.flip.smooth hv hc (by simp [hcc])
     have el:smLp s m c (LA+LB)=LB+smL m (s.getD c 0== -1) c s.length+LA:=by omega
     rw [el] at e2 w2
     exact ih _ _ _ _ _ q1 g w2 (by rw [l2];omega) e2
   have:=ykz (A:=0) (B:=0) (by omega) (by omega) (v.sg c hc) (fun x hx=>by have:=z1 x hx;omega) (fun x hx=>by have:=z2 x hx;omega)
   intro x hx
   have:=this x hx
   omega
end
end Sp
end Go.Proofs.YtcnilhcplgiidaaDoor
namespace Go.Proofs.YtcnilhcplgiidaaDoor
set_option linter.unusedSimpArgs false
set_option linter.unusedVariables false
section
variable {m1 m2:List Int} {n1 n2:Nat}
end
section
variable {m1 m2:List Int} {n1 n2 L1 L2:Nat}
end
end Go.Proofs.YtcnilhcplgiidaaDoor
