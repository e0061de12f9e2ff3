/- Plain: the number of components of a smoothed diagram. -/
import Derived.Test.YtcnilhcplgiidaaDoorSk1
import Derived.Test.YtcnilhcplgiidaaDoorZo
import Derived.Test.YtcnilhcplgiidaaDoorPq
namespace Go.Proofs.YtcnilhcplgiidaaDoor
set_option linter.unusedSimpArgs false
set_option linter.unusedVariables false
theorem yq7 {m:List Int} {n:Nat} (hp:PmOk m n) {q q':Nat->Nat} (hq: ∀c,c<n->q c=q' c):cir3 m n q=cir3 m n q':=by
 have R:=ygd hp q
 have R':=ygd hp q'
 unfold cir3
 have hi:=yc8 hp.ok hp.inv hp.ne q
 have hi':=yc8 hp.ok hp.inv hp.ne q'
 have eqs: ∀z,InR n z->st3 q z=st3 q' z:=fun z hz=>by unfold InR at hz;unfold st3;rw [hq _ (by omega)]
 have up: ∀{q q':Nat->Nat} (hi:Inv2 n (fun x=>m.getD x.toNat 0) (st3 q)) (_: ∀z,InR n z->st3 q z=st3 q' z) {x y:Int},InR n x->Cir (fun x=>m.getD x.toNat 0) (st3 q) x y->Cir (fun x=>m.getD x.toNat 0) (st3 q') x y:=fun {q q'} hi he {x y} hx h=>by
  induction h with
  |refl=>exact .refl _
  |mate _ ih=>exact .mate ih
  | @join z hz ih=>rw [he z (hz.rng hi hx)];exact .join ih
 exact ywg R ⟨R'.rep,fun x y hx hy=>(R'.iff x y hx hy).trans ⟨up hi' (fun z hz=>(eqs z hz).symm) (by unfold InR;omega),up hi eqs (by unfold InR;omega)⟩⟩
theorem yif (x:Int):pr3 2 x=x-x % 4+(x % 4+2)% 4:=rfl
section
variable {s m:List Int} {L:Int} (hv:yaj s m L=true)
include hv
theorem yit:(yae s m).length=cir3 m s.length (fun _=>2):=by
 rw [yot (yat hv) (pmOk hv)]
 exact yq7 (pmOk hv) fun c hc=>by unfold stX;rw [if_neg (by omega),if_pos hc]
theorem yzf {k:Nat} (hk:k<(yae s m).length) {x:Nat} (hx:x<4*s.length) {z:Int} (h:Cir (fun x=>m.getD x.toNat 0) (st3 fun _=>2) x z): ∃y:Nat,z=y/\y<4*s.length/\(onK s m k x↔onK s m k y):=by
 have v:=yat hv
 induction h with
 |refl=>exact ⟨x,rfl,hx,Iff.rfl⟩
 |mate _ ih=>
  obtain ⟨y,rfl,h1,h2⟩:=ih
  obtain ⟨w,w1,w2,w3⟩:=yhq v h1
  exact ⟨w,by show m.getD (Int.toNat (y:Int)) 0=w;rw [Int.toNat_natCast];exact w1,w2,by rw [h2,yt0 v k h1 w1]⟩
 |join _ ih=>
  obtain ⟨y,rfl,h1,h2⟩:=ih
  refine ⟨op2 y,?_,by unfold op2;omega,by rw [h2,yfr v hk h1]⟩
  show pr3 2 (y:Int)=_
  rw [yif];unfold op2;omega
omit hv in
theorem yk6 {x:Nat} (hx:x<4*s.length): ∀j,Cir (fun x=>m.getD x.toNat 0) (st3 fun _=>2) x (it (yah m) j x)
 |0=> .refl _
 |j+1=>by
  have h:=Cir.join (Cir.mate (yk6 hx j))
  have e:st3 (fun _=>2) (m.getD (it (yah m) j (x:Int)).toNat 0)=it (yah m) (j+1) x:=by
   show pr3 2 (m.getD (it (yah m) j (x:Int)).toNat 0)=yah m (it (yah m) j x)
   rw [yif];unfold yah yaz;rw [show (2:Int).tmod 4=2 by decide];omega
  exact e▸h
theorem yiu {c:Nat} (hc:c<s.length) {L':Int} (hL':smLp s m c L=L') (hv':yaj (smS s c) (smM s m c) L'=true) {u o:Nat->Nat} (ha:AtK s m (yae s m).length u o):
  (u c=o c->((yae (smS s c) (smM s m c)).length:Int)+L'=(yae s m).length+L+1)/\(u c≠o c->((yae s m).length:Int)+L=(yae (smS s c) (smM s m c)).length+L'+1):=by
 have v:=yat hv
 have hp:=pmOk hv
 have hsl:(smS s c).length=s.length-1:=by
  obtain ⟨w1,_⟩:=Sp.woS_get (s:=s) (c:=c) s.length
  rw [if_pos hc] at w1;exact w1
 have hp':=pmOk hv'
 have e0:=yit hv
 have e1:=yit hv'
 rw [hsl] at hp' e1
 obtain ⟨b,hb⟩: ∃b,(s.getD c 0== -1)=b:=⟨_,rfl⟩
 have n2:nb01 b<2:=by cases b<;>decide
 have hr:(cir3 m s.length (fun i=>if i=c then nb01 b else 2):Int)=cir3 (smM s m c) (s.length-1) (fun _=>2)+smL m b c s.length:=by
  refine ywj (mt:=fun x=>m.getD x.toNat 0) (jn:=st3 fun i=>if i=c then nb01 b else 2) (mt':=fun x=>(smM s m c).getD x.toNat 0) (jn':=st3 fun _=>2) hp hc (yc8 hp.ok hp.inv hp.ne _) (fun _=>rfl) (fun x=>ye9 _ x) (fun x hx=>?_) (yc8 hp'.ok hp'.inv hp'.ne _) (fun x hx=>?_) (fun y h0 h=>?_) (ygd hp _) (ygd hp' _)
  ·show pr3 (if (x/4).toNat=c then nb01 b else 2) x=_
   rw [if_pos (by omega)]
   cases b<;>rfl
  ·obtain ⟨wl,wg⟩:=Sp.woM_get (E:=smE m b c (4*s.length)) (c:=c) s.length
   rw [if_pos hc] at wl wg
   have hml:=hp.ok.1
   have e:(upK c (x:Int)).toNat=if x/4<c then x else x+4:=by unfold upK;split<;>split<;>omega
   rw [e]
   show (smM s m c).getD (Int.toNat (x:Int)) 0=_
   unfold smM
   rw [hb,Int.toNat_natCast,wg x hx]
   unfold cutM
   rw [Sp.smE_get (i:=if x/4<c then x else x+4) (by split<;>omega) (4*s.length) (by omega) (by split<;>omega)]
   rfl
  ·show pr3 2 (cutK c y)=cutK c (pr3 (if (y/4).toNat=c then nb01 b else 2) y)
   rw [if_neg (by omega),yif,yif]
   unfold cutK
   split<;>split<;>omega
 have hlp:L'=L+smL m b c s.length:=by rw [←hL',←hb];rfl
 obtain ⟨x,y,hx,hy,sx,sy,hne,hd⟩:=ywm (σ:=fun x=>outB s (x:Int)) (s:=fun _=>2) (s':=fun i=>if i=c then nb01 b else 2) (c:=c) hp (ypx hv _ fun _ _=> .inl rfl)
  (ypx hv _ fun i _=>by
   by_cases h:i=c
   ·subst h;right;rw [if_pos rfl,hb]
   ·left;rw [if_neg h]) hc (fun i hi=>by rw [if_neg hi]) (by decide) (by rw [if_pos rfl];omega) (by rw [if_pos rfl];omega)
 have key: ∀z:Nat,z/4=c->outB s (z:Int)=false->z=4*c\/z=op2 (ovH s c):=fun z hz ho=>by
  obtain ⟨a0,a1,a2,a3⟩:=yct s c
  have e:z=4*c\/z=4*c+1\/z=4*c+2\/z=4*c+3:=by omega
  unfold ovH op2
  rcases v.sg c hc with h|h
  ·rw [if_pos h]
   rcases e with rfl|rfl|rfl|rfl
   ·exact .inl rfl
   ·rw [a1,h] at ho;cases ho
   ·rw [a2] at ho;cases ho
   ·right;omega
  ·rw [if_neg (by omega)]
   rcases e with rfl|rfl|rfl|rfl
   ·exact .inl rfl
   ·right;omega
   ·rw [a2] at ho;cases ho
   ·rw [a3,h] at ho;cases ho
 have onu: ∀z:Nat,z<4*s.length->outB s (z:Int)=false-> ∀k,k<(yae s m).length->(((op2 z:Nat):Int)∈strK s m k↔((Sp.alD m z:Nat):Int)∈strK s m k)/\Sp.alD m z<4*s.length/\outB s ((Sp.alD m z:Nat):Int)=true:=fun z hz ho k hk=>by
  obtain ⟨w,w1,w2,w3⟩:=yhq v hz
  have hw:Sp.alD m z=w:=by unfold Sp.alD;omega
  have h1:=yn6 v hk w2
  rw [yq5 w2 w3] at h1
  have h2:=ykh v hz
  rw [w1,ho] at h2
  rw [hw]
  exact ⟨h1.symm,w2,h2⟩
 have cu:op2 (4*c)=4*c+2:=by unfold op2;omega
 have co:op2 (op2 (ovH s c))=ovH s c:=by unfold ovH op2;split<;>omega
 have lo:op2 (ovH s c)<4*s.length:=by unfold ovH op2;split<;>omega
 have so:outB s ((op2 (ovH s c):Nat):Int)=false:=by
  rcases key x hx sx with e|e
  ·rcases key y hy sy with e'|e'
   ·exact absurd (e.trans e'.symm) hne
   ·rw [←e'];exact sy
  ·rw [←e];exact sx
 have su:outB s ((4*c:Nat):Int)=false:=(yct s c).1
 have hul:=ha.ul c hc
 have hol:=ha.ol c hc
 have mu:((Sp.alD m (4*c):Nat):Int)∈strK s m (u c):=(onu _ (by omega) su _ hul).1.1 (by rw [cu];exact ha.um c hc)
 have mo:((Sp.alD m (op2 (ovH s c)):Nat):Int)∈strK s m (o c):=(onu _ lo so _ hol).1.1 (by rw [co];exact ha.om c hc)
 have hcir: ∀{p q:Nat} {k k':Nat},p<4*s.length->outB s (p:Int)=true->outB s (q:Int)=true->k<(yae s m).length->k'<(yae s m).length->(p:Int)∈strK s m k->(q:Int)∈strK s m k'->(Cir (fun x=>m.getD x.toNat 0) (st3 fun _=>2) p q↔k=k'):=fun {p q k k'} hpl op oq hk hk' hpk hqk=>by
  constructor
  ·intro h
   obtain ⟨y',h1,h2,h3⟩:=yzf hv hk hpl h
   obtain rfl:q=y':=by omega
   have h4:onK s m k p:=by unfold onK;rw [if_pos op];exact hpk
   have h5:=h3.1 h4
   unfold onK at h5
   rw [if_pos oq] at h5
   exact yc9 v hk hk' h5 hqk
  ·rintro rfl
   obtain ⟨x0,x1,x2,x3,x4⟩:=yer v hk
   rw [x4] at hpk hqk
   have hs:=ybx v x1
   obtain ⟨i,hi⟩:=(hs.1 _).1 hpk
   obtain ⟨j,hj⟩:=(hs.1 _).1 hqk
   have c1:=yk6 (m:=m) x1 i
   have c2:=yk6 (m:=m) x1 j
   rw [hi] at c1
   rw [hj] at c2
   exact (c1.symm (yc8 hp.ok hp.inv hp.ne _) (by unfold InR;omega)).trans c2
 have iffu:Cir (fun x=>m.getD x.toNat 0) (st3 fun _=>2) (Sp.alD m x:Nat) (Sp.alD m y:Nat)↔u c=o c:=by
  have fu:=onu _ (show 4*c<4*s.length by omega) su _ hul
  have fo:=onu _ lo so _ hol
  rcases key x hx sx with e|e<;>rcases key y hy sy with e'|e'
  ·exact absurd (e.trans e'.symm) hne
  ·rw [e,e'];exact hcir fu.2.1 fu.2.2 fo.2.2 hul hol mu mo
  ·rw [e,e'];exact (hcir fo.2.1 fo.2.2 fu.2.2 hol hul mo mu).trans ⟨Eq.symm,Eq.symm⟩
  ·exact absurd (e.trans e'.symm) hne
 constructor
 ·intro h
  rcases hd with ⟨d1,d2⟩|⟨d1,d2⟩
  ·omega
  ·exact absurd (iffu.2 h) d1
 ·intro h
  rcases hd with ⟨d1,d2⟩|⟨d1,d2⟩
  ·exact absurd (iffu.1 d1) h
  ·omega
end
end Go.Proofs.YtcnilhcplgiidaaDoor
