/- Plain: the states of a diagram, their circles, and what Bracket counts. -/
import Derived.Test.YtmdjdekgakidhaaGreatDoorZd
import Derived.Test.YtmdjdekgakidhaaGreatDoorZf
import Derived.Test.YtmdjdekgakidhaaGreatDoorZe
import Derived.Test.YtmdjdekgakidhaaGreatDoorZa
namespace Go.Proofs.YtmdjdekgakidhaaGreatDoor
set_option linter.unusedSimpArgs false
set_option linter.unusedVariables false
structure bD (m:List Int) (n:Nat):Prop where
 ok:iN m n
 inv: ∀x:Nat,x<4*n->m.getD (m.getD x 0).toNat 0=x
 ne: ∀x:Nat,x<4*n->m.getD x 0≠x
theorem dI {s m:List Int} {L:Int} (h:cX s m L=true):bD m s.length:=by
 have v:=jb h;refine ⟨v.prd.ok,v.prd.inv,fun x hx=>?_⟩
 have:=v.mt x hx
 omega
abbrev bT (m:List Int) (n:Nat) (ch:Nat->Bool):Nat:=roots (gj m ch n)
theorem As {m:List Int} {ch ch':Nat->Bool}: ∀{n:Nat},(∀c,c<n->ch c=ch' c)->gj m ch n=gj m ch' n
 |0,_=>rfl
 |n+1,h=>by
  have:=As (m:=m) (n:=n) fun c hc=>h c (by omega)
  simp only [gj,h n (by omega),this]
def cT (b:Bool):Nat:=if b then 1 else 0
theorem VA (ch:Nat->Bool):cZ (fun c=>cT (ch c))=fun x=>bO (ch (x/4).toNat) x:=by
 funext x;unfold cZ cT;dsimp only;cases ch (x/4).toNat<;>rfl
section
variable {m:List Int} {n:Nat} (hp:bD m n)
include hp
theorem Dt (ch:Nat->Bool):fa n (fun x=>m.getD x.toNat 0) (cZ (fun c=>cT (ch c))) (gj m ch n):=by
 rw [VA];exact FG hp.ok hp.inv hp.ne
theorem yd (s:Nat->Nat):fa n (fun x=>m.getD x.toNat 0) (cZ s) (crN (fun x=>m.getD x.toNat 0) (cZ s) (4*n) (4*n)):=uJ (tF hp.ok hp.inv hp.ne s)
theorem zG (ch:Nat->Bool):bT m n ch=dO m n (fun c=>cT (ch c)):=yy (Dt hp ch) (yd hp _)
theorem Ui (s:Nat->Nat) {c:Nat} (hc:c<n): ∃K t0,t0<3/\ ∀t,t<3->dO m n (fun x=>if x=c then t else s x)=if t=t0 then K+1 else K:=by
 refine three (c:=c) (j:=fun t=>cZ (fun x=>if x=c then t else s x)) hc (fun t _=>tF hp.ok hp.inv hp.ne _) (fun t _=>AU _) (fun t _ x hx=>?_) (fun t _ x h0 hx=>?_) (fun t _=>yd hp _)
 ·simp only [cZ];rw [if_pos (by omega)]
 ·simp only [cZ];rw [if_neg (by omega),if_neg (by omega)]
theorem Vz {ch ch':Nat->Bool} {c:Nat} (hc:c<n) (h: ∀x,x≠c->ch x=ch' x):bT m n ch<=bT m n ch'+1:=by
 obtain ⟨K,t0,_,h3⟩:=Ui hp (fun x=>cT (ch x)) hc;have e1:(fun x=>cT (ch x))=fun x=>if x=c then cT (ch c) else cT (ch x):=by
  funext x;by_cases e:x=c
  ·rw [if_pos e,e]
  ·rw [if_neg e]
 have e2:(fun x=>cT (ch' x))=fun x=>if x=c then cT (ch' c) else cT (ch x):=by
  funext x;by_cases e:x=c
  ·rw [if_pos e,e]
  ·rw [if_neg e,h x e]
 have SB: ∀b,cT b<3:=fun b=>by cases b<;>decide
 rw [zG hp,zG hp,e1,e2,h3 _ (SB _),h3 _ (SB _)]
 split<;>split<;>omega
def difS (b:Bool) (ch:Nat->Bool):Nat->Nat
 |0=>0
 |c+1=>difS b ch c+if ch c=b then 0 else 1
omit hp in
theorem Hc (ch:Nat->Bool): ∀c,difS false ch c+difS true ch c=c
 |0=>rfl
 |c+1=>by have:=Hc ch c;simp only [difS];cases ch c<;>simp<;>omega
theorem OZ (b:Bool) (ch:Nat->Bool): ∀i,i<=n->bT m n (fun c=>if c<i then ch c else b)<=bT m n (fun _=>b)+difS b ch i
 |0,_=>by simp [difS]
 |i+1,hi=>by
  have ih:=OZ b ch i (by omega);simp only [difS];by_cases hb:ch i=b
  ·rw [if_pos hb]
   have:(fun c=>if c<i+1 then ch c else b)=fun c=>if c<i then ch c else b:=by
    funext c;by_cases e:c=i
    ·subst e;rw [if_pos (by omega),if_neg (by omega),hb]
    ·by_cases e2:c<i
     ·rw [if_pos (by omega),if_pos e2]
     ·rw [if_neg (by omega),if_neg e2]
   rw [this];exact ih
  ·rw [if_neg hb]
   have:=Vz hp (c:=i) (by omega) (ch:=fun c=>if c<i+1 then ch c else b) (ch':=fun c=>if c<i then ch c else b) fun x hx=>by
    by_cases e2:x<i
    ·rw [if_pos (by omega),if_pos e2]
    ·rw [if_neg (by omega),if_neg e2]
   omega
theorem DM (b:Bool) (ch:Nat->Bool):bT m n ch<=bT m n (fun _=>b)+difS b ch n:=by
 have:=OZ hp b ch n (zzA _)
 have e:bT m n (fun c=>if c<n then ch c else b)=bT m n ch:=by
  unfold bT;rw [As fun c hc=>by rw [if_pos hc]]
 omega
theorem OY:bT m n (fun _=>false)+bT m n (fun _=>true)<=3*n:=by
 have h0:=Dt hp (fun _=>false);have h1:=Dt hp (fun _=>true);refine VT (tF hp.ok hp.inv hp.ne _) (tF hp.ok hp.inv hp.ne _) h0 h1 fun x hx=>?_;have V:=An (x/4);show pr3 0 x≠pr3 1 x;rcases (show x=4*(x/4)\/x=4*(x/4)+1\/x=4*(x/4)+2\/x=4*(x/4)+3 by omega) with h|h|h|h<;>(rw [h];omega)
theorem sL (ch:Nat->Bool):bT m n ch<=2*n:=by
 have h1:=DM hp false ch;have h2:=DM hp true ch;have h3:=OY hp;have h4:=Hc ch n;omega
theorem Ep (ch:Nat->Bool) (hn:0<n):1<=bT m n ch:=Kh n (Dt hp ch) hn
end
def e9 (b:Nat) (c:Nat):Bool:=b/2^c % 2==1
def bY (b:Nat):Nat->Nat
 |0=>0
 |c+1=>bY b c+b/2^c % 2
theorem Ac (b:Nat): ∀c,bY b c<=c
 |0=>zzA _
 |c+1=>by have:=Ac b c;simp only [bY];omega
theorem Eo (b:Nat): ∀c,bY b c=difS false (e9 b) c
 |0=>rfl
 |c+1=>by
  simp only [bY,difS,Eo b c,e9];by_cases h:b/2^c % 2=1
  ·simp [h]
  ·have:b/2^c % 2=0:=by omega
   simp [this]
def cN (m:List Int) (n L:Nat) (b:Nat):Nat:=bT m n (e9 b)+L
def wB (n:Nat) (b:Nat):Int:=(n:Int)-2*bY b n
def cu (m:List Int) (n L:Nat) (j:Nat) (e:Int):Int:=rq (2^n) (cN m n L) (wB n) j e
section
variable {m:List Int} {n L:Nat} (hp:bD m n)
include hp
theorem Aj {j:Nat} {e:Int} (h:cu m n L j e≠0): -(n:Int)-2*(bT m n (fun _=>true)+L)+2*j<=e/\e<=n+2*(bT m n (fun _=>false)+L)-2*j:=by
 obtain ⟨k,_,hj,h1,h2⟩:=VO h;have a1:=DM hp false (e9 k);have a2:=DM hp true (e9 k);have a3:=Hc (e9 k) n;have a4:=Eo k n;unfold wB cN at*;omega
theorem zo (b:Nat):cN m n L b<=2*n+L:=by have:=sL hp (e9 b);unfold cN;omega
theorem Nq {j M:Nat} (hM:2*n+L<=M+j) (e:Int): -((2^(M+n):Nat):Int)<=cu m n L j e/\cu m n L j e<=((2^(M+n):Nat):Int):=by
 have:=Ke (K:=2^n) (c:=cN m n L) (w:=wB n) (j:=j) (M:=M) (fun k _=>by have:=zo hp (L:=L) k;omega) e
 rw [Nat.pow_add,Int.natCast_mul,←Int.neg_mul];exact this
omit hp in
theorem Np: ∀i,i<=L-> ∀e,cu m n L (L-i) e=dmn i (cu m n L L) e
 |0,_,e=>rfl
 |i+1,hi,e=>by
  have h1:=Pt (K:=2^n) (c:=cN m n L) (w:=wB n) (L-(i+1)) e;rw [show L-(i+1)+1=L-i by omega] at h1;have h0:yU (2^n) (cN m n L) (wB n) (L-(i+1)) e=0:=by
   have:yU (2^n) (cN m n L) (wB n) (L-(i+1)) e=sm (fun _=>0) (2^n):=kK fun k _=>by
    rw [if_neg];rintro ⟨h2,_⟩;unfold cN at h2;omega
   rw [this,qj];omega
  rw [h0] at h1;show rq _ _ _ _ _=dw (dmn i (cu m n L L)) e;rw [h1];simp only [dw,←Np i (by omega),Int.add_zero];rfl
omit hp in
theorem Nn {p:List (Int×Int)} (ha:bR p) {f:Int->Int} (hf: ∀e,cfL p e=f e) {a b:Int} (hs: ∀e,f e≠0->a<=e/\e<=b): ∀t∈p,a<=t.1/\t.1<=b:=fun t ht=>hs _ (by rw [←hf,vb ha ht];exact ha.nz t ht)
end
theorem GA (f:Nat->Nat->Int) (a:Nat): ∀b,sm (fun x=>sm (fun k=>f x k) b) a=sm (fun k=>sm (fun x=>f x k) a) b
 |0=>by simp only [sm];rw [qj];omega
 |b+1=>by simp only [sm];rw [←GA f a b,uZ]
theorem Ds {f:Nat->Int} {a:Nat}: ∀{n:Nat},a<n->(∀x,x<n->x≠a->f x=0)->sm f n=f a
 |n+1,ha,h=>by
  simp only [sm];by_cases e:a=n
  ·subst e;rw [kK (g:=fun _=>0) fun x hx=>h x (by omega) (by omega),qj];omega
  ·rw [Ds (n:=n) (by omega) fun x hx av=>h x (by omega) av,h n (by omega) (by omega)];omega
end Go.Proofs.YtmdjdekgakidhaaGreatDoor
set_option linter.unusedSimpArgs false
set_option linter.unusedVariables false
namespace Go.Proofs.YtmdjdekgakidhaaGreatDoor
open Go Go.RowKit
set_option maxRecDepth 100000
structure aV (p:List (Int×Int)) (f:Int->Int):Prop where
 asc:bR p
 cf: ∀e,cfL p e=f e
theorem aV.nil:aV [] (fun _=>0):=⟨bR.nil,fun _=>rfl⟩
theorem aV.congr {p:List (Int×Int)} {f g:Int->Int} (h:aV p f) (e: ∀x,f x=g x):aV p g:=⟨h.asc,fun x=>(h.cf x).trans (e x)⟩
theorem aV.mem {p:List (Int×Int)} {f:Int->Int} (h:aV p f) {t:Int×Int} (ht:t∈p):t.2=f t.1/\f t.1≠0:=by
 have:=vb h.asc ht
 rw [h.cf] at this;exact ⟨this.symm,by rw [this];exact h.asc.nz t ht⟩
theorem aV.len {p:List (Int×Int)} {f:Int->Int} (h:aV p f) (hs: ∀e,f e≠0-> -1000<=e/\e<=1000):p.length<=2001:=by
 have:=h.asc.len (a:= -1000) (b:=1000) fun t ht=>hs _ (h.mem ht).2
 omega
theorem aV.fits {p:List (Int×Int)} {f:Int->Int} (h:aV p f) (hb: ∀e,-1125899906842624<=f e/\f e<=1125899906842624):sz p:=fun t ht=>by
 rw [(h.mem ht).1];exact hb _
theorem aV.ok {p:List (Int×Int)} {f:Int->Int} (h:aV p f) (hs: ∀e,f e≠0-> -1000<=e/\e<=1000) (hb: ∀e,-1125899906842624<=f e/\f e<=1125899906842624):FY p:=by
 refine ⟨h.fits hb,by have:=h.len hs;omega,fun i j fG hj=>?_,fun i hi=>?_⟩
 ·by_cases e:i=j
  ·subst e;exact Int.le_refl _
  ·have:=List.pairwise_iff_getElem.1 h.asc.asc i j (by omega) hj (by omega)
   simp only [zzB,zzI hj,zzI (show i<p.length by omega),Option.getD_some];omega
 ·have:=hs _ (h.mem (iO hi)).2
  omega
theorem Hb {p:List (Int×Int)} (h:p.Pairwise fun a b=>a.1<b.1) {t:Int×Int} (ht:t∈p):cfL p t.1=t.2:=by
 induction p with
 |nil=>cases ht
 |cons u p ih=>
  have h1:=List.pairwise_cons.1 h;simp only [cfL];rcases List.mem_cons.1 ht with rfl|ht
  ·rw [if_pos rfl,oX fun v hv=>by have:=h1.1 v hv;omega];omega
  ·rw [if_neg (by have:=h1.1 t ht;omega),ih h1.2 ht];omega
theorem I1 (c e:Int):aV (yK c e) (fun x=>if x=e then c else 0):=by
 unfold yK
 split
 ·rename_i h
  exact aV.nil.congr fun x=>by rw [h];split<;>rfl
 ·rename_i h
  refine ⟨⟨by simp,fun t ht=>by simp only [List.mem_singleton] at ht;subst ht;exact h⟩,fun x=>?_⟩;simp only [cfL,Int.add_zero];by_cases hx:x=e
  ·rw [if_pos hx.symm,if_pos hx]
  ·rw [if_neg (fun h=>hx h.symm),if_neg hx]
theorem CL:bR [(-2,-1),(2,-1)]:=⟨by decide,by decide⟩
theorem Gz {p q:List (Int×Int)} {f g h:Int->Int} (hp:aV p f) (hq:aV q g) (hs: ∀e,f e≠0-> -1000<=e/\e<=1000) (gC: ∀e,g e≠0-> -1000<=e/\e<=1000)
  (hb: ∀e,-1125899906842624<=f e/\f e<=1125899906842624) (kx: ∀e,-1125899906842624<=g e/\g e<=1125899906842624) (hh: ∀e,cvL p g e=h e) (Ct: ∀e,-1125899906842624<=h e/\h e<=1125899906842624)
  (jt:0<p.length) (oD:0<q.length) (hd:gS p+gS q-(aH p+aH q)<=64+4*(p.length:Int)*q.length):
  ∃r,aV r h/\Fn Tryz.prog 10 [plA false p,plA false q] (plA false r):=by
 have a0:=hs _ (hp.mem (iO (i:=0) jt)).2;have a1:=hs _ (hp.mem (iO (i:=p.length-1) (by omega))).2;have b0:=gC _ (hq.mem (iO (i:=0) oD)).2;have b1:=gC _ (hq.mem (iO (i:=q.length-1) (by omega))).2;have LK:cfL q=g:=funext hq.cf;have hc: ∀e,cfL (tmI (aH p+aH q) (kX p q)) e=h e:=fun e=>by rw [Kf hp.asc hq.asc,LK,hh]
 refine ⟨_,⟨DR _ _,hc⟩,I2 p q (hp.ok hs hb) (hq.ok gC kx) jt oD ?_ ?_ ?_ hd fun z hz=>?_⟩
 ·unfold aH;omega
 ·unfold gS;omega
 ·unfold aH gS;omega
 ·obtain ⟨i,hi,rfl⟩:=List.mem_iff_getElem.1 hz;have h1:=zR (aH p+aH q) (kX p q) (aH p+aH q+i);rw [if_pos (by omega),show (aH p+aH q+(i:Int)-(aH p+aH q)).toNat=i by omega,hc] at h1;have h2:(kX p q).getD i 0=(kX p q)[i]:=by simp [zzB,hi]
  rw [←h2,←h1];exact Ct _
theorem IZ {p:List (Int×Int)} {f:Int->Int} (hp:aV p f) (hs: ∀e,f e≠0-> -1000<=e/\e<=1000) (hb: ∀e,-281474976710656<=f e/\f e<=281474976710656) (hd:0<p.length->gS p-aH p+4<=64+8*(p.length:Int)):
  ∃q,aV q (dw f)/\Fn Tryz.prog 10 [plA false p,plA false [(-2,-1),(2,-1)]] (plA false q):=by
 by_cases jt:0<p.length
 ·have hq:aV [(-2,-1),(2,-1)] (cfL [(-2,-1),(2,-1)]):=⟨CL,fun _=>rfl⟩;refine Gz hp hq hs (fun e he=>?_) (fun e=>by have:=hb e;omega) (fun e=>?_) (h:=dw f) (fun e=>by rw [Rb,show cfL p=f from funext hp.cf]) (fun e=>?_) jt (by decide) ?_
  ·simp only [cfL] at he;by_cases h1:(-2:Int)=e
   ·omega
   ·rw [if_neg h1] at he;by_cases h2:(2:Int)=e
    ·omega
    ·rw [if_neg h2] at he;exact absurd rfl he
  ·simp only [cfL];split<;>split<;>omega
  ·have h1:=hb (e+2);have h2:=hb (e-2);unfold dw;omega
  ·have:=hd jt
   have e1:gS [((-2:Int),(-1:Int)),(2,-1)]=2:=rfl;have e2:aH [((-2:Int),(-1:Int)),(2,-1)]= -2:=rfl;rw [e1,e2,show ([((-2:Int),(-1:Int)),(2,-1)]:List (Int×Int)).length=2 from rfl];omega
 ·obtain rfl:p=[]:=List.length_eq_zero_iff.1 (by omega);refine ⟨[],aV.nil.congr fun e=>?_,Nr _⟩;have h1:=hp.cf (e+2);have h2:=hp.cf (e-2);simp only [cfL] at h1 h2;unfold dw;rw [←h1,←h2];rfl
def bS (f:Int->Int):List (Int×Int):=tmI (-1000) ((List.range 2001).map fun (i:Nat)=>f ((i:Int)-1000))
theorem nQ {f:Int->Int} (hs: ∀e,f e≠0-> -1000<=e/\e<=1000):aV (bS f) f:=by
 refine ⟨DR _ _,fun e=>?_⟩;unfold bS;rw [zR];by_cases h0:f e=0
 ·rw [h0]
  split
  ·by_cases h1:(e- -1000).toNat<2001
   ·simp only [zzB,List.getElem?_map,List.getElem?_range h1,Option.map_some,Option.getD_some];rw [show (((e- -1000).toNat:Nat):Int)-1000=e by omega,h0]
   ·rw [zzB,List.getElem?_eq_none (by simp;omega)];rfl
  ·rfl
 ·have:=hs e h0
  rw [if_pos (by omega)];have h1:(e- -1000).toNat<2001:=by omega
  simp only [zzB,List.getElem?_map,List.getElem?_range h1,Option.map_some,Option.getD_some];rw [show (((e- -1000).toNat:Nat):Int)-1000=e by omega]
theorem aV.eq {p:List (Int×Int)} {f:Int->Int} (h:aV p f) (hs: ∀e,f e≠0-> -1000<=e/\e<=1000):p=bS f:=
 bR.ext h.asc (nQ hs).asc fun e=>by rw [h.cf,(nQ hs).cf]
def kE (m:List Int) (n L:Nat):List (Int×Int):=bS (cu m n L 1)
theorem tu {m:List Int} {n L:Nat} (hp:bD m n) (hn:n<=9) (hL:L<=20) {j:Nat} (hj:1<=j) {e:Int} (he:cu m n L j e≠0): -1000<=e/\e<=1000:=by
 have h1:=Aj hp he;have h2:=sL hp (fun _=>true);have h3:=sL hp (fun _=>false);omega
theorem DL {m:List Int} {n L:Nat} (hp:bD m n) (hn:n<=9) (hL:L<=20) {j:Nat} (hj:1<=j) (e:Int): -70368744177664<=cu m n L j e/\cu m n L j e<=70368744177664:=by
 have h1:=Nq hp (L:=L) (j:=j) (M:=37) (by omega) e;have h2:2^(37+n)<=2^46:=Nat.pow_le_pow_right (by omega) (by omega);omega
def putR (e z:Int):List (Int×Int)->List (Int×Int)
 |[]=>[(e,z)]
 |t::S=>if t.1<e then t::putR e z S else if t.1=e then (e,t.2+z)::S else (e,z)::t::S
theorem RZ (e z:Int): ∀S,fg e z S=putR e z S
 |[]=>by simp [fg,putR,ltI]
 |t::S=>by
  have ih:=RZ e z S;by_cases h:t.1<e
  ·have e1:ltI e (t::S)=ltI e S+1:=if_pos h;rw [show putR e z (t::S)=t::putR e z S from if_pos h,←ih];unfold fg;rw [e1];have e2:((t::S).getD (ltI e S+1) (0,0))=S.getD (ltI e S) (0,0):=by simp
   rw [e2,zzG];by_cases hc:ltI e S<S.length/\(S.getD (ltI e S) (0,0)).1=e
   ·rw [if_pos hc,if_pos ⟨by omega,hc.2⟩,List.set_cons_succ]
   ·rw [if_neg hc,if_neg (fun g=>hc ⟨by omega,g.2⟩),List.take_succ_cons,List.drop_succ_cons];rfl
  ·have e1:ltI e (t::S)=0:=if_neg h;unfold fg;rw [e1];by_cases he:t.1=e
   ·rw [if_pos ⟨by simp,he⟩];simp [putR,h,he]
   ·rw [if_neg (fun g=>he g.2)];simp [putR,h,he]
theorem OX (e z:Int): ∀S,(putR e z S).length<=S.length+1
 |[]=>zzA _
 |t::S=>by
  have:=OX e z S
  simp only [putR]
  split
  ·simp only [zzG];omega
  ·split<;>simp only [zzG]<;>omega
theorem En (e z:Int): ∀S x,x∈putR e z S->x∈S\/x=(e,z)\/ ∃t∈S,x=(e,t.2+z)
 |[],x,h=>by simp [putR] at h;exact .inr (.inl h)
 |t::S,x,h=>by
  simp only [putR] at h
  split at h
  ·rcases List.mem_cons.1 h with g|g
   ·exact .inl (g▸zzD ..)
   ·rcases En e z S x g with a|a|⟨u,hu,a⟩
    ·exact .inl (zzE _ a)
    ·exact .inr (.inl a)
    ·exact .inr (.inr ⟨u,zzE _ hu,a⟩)
  ·split at h
   ·rcases List.mem_cons.1 h with g|g
    ·exact .inr (.inr ⟨t,zzD ..,g⟩)
    ·exact .inl (zzE _ g)
   ·rcases List.mem_cons.1 h with g|g
    ·exact .inr (.inl g)
    ·exact .inl g
theorem OW (e z:Int): ∀S,S.Pairwise (fun a b=>a.1<b.1)->(putR e z S).Pairwise fun a b=>a.1<b.1
 |[],_=>by simp [putR]
 |t::S,h=>by
  obtain ⟨h1,h2⟩:=List.pairwise_cons.1 h;simp only [putR]
  split
  ·rename_i ht
   refine List.pairwise_cons.2 ⟨fun x hx=>?_,OW e z S h2⟩;rcases En e z S x hx with a|a|⟨u,_,a⟩
   ·exact h1 x a
   ·rw [a];exact ht
   ·rw [a];exact ht
  ·split
   ·rename_i he
    exact List.pairwise_cons.2 ⟨fun x hx=>by have:=h1 x hx;show e<x.1;omega,h2⟩
   ·refine List.pairwise_cons.2 ⟨fun x hx=>?_,h⟩;rcases List.mem_cons.1 hx with g|g
    ·rw [g];show e<t.1;omega
    ·have:=h1 x g;show e<x.1;omega
theorem NY (e z x:Int): ∀S,cfL (putR e z S) x=cfL S x+if x=e then z else 0
 |[]=>by
  simp only [putR,cfL];by_cases h:x=e
  ·rw [if_pos h,if_pos h.symm];all_goals omega
  ·rw [if_neg h,if_neg (fun g=>h g.symm)];all_goals omega
 |t::S=>by
  have:=NY e z x S
  simp only [putR]
  split
  ·simp only [cfL,this];omega
  ·split
   ·rename_i he
    simp only [cfL];by_cases h:x=e
    ·rw [if_pos h,if_pos h.symm,if_pos (by omega)];omega
    ·rw [if_neg h,if_neg (fun g=>h g.symm),if_neg (by omega)];omega
   ·simp only [cfL];by_cases h:x=e
    ·rw [if_pos h,if_pos h.symm];omega
    ·rw [if_neg h,if_neg (fun g=>h g.symm)];omega
structure QS (S:List (Int×Int)) (f:Int->Int) (k:Nat) (B E:Int):Prop where
 asc:S.Pairwise fun a b=>a.1<b.1
 cf: ∀x,cfL S x=f x
 len:S.length<=k
 bnd: ∀t∈S,-(k*B)<=t.2/\t.2<=k*B
 ex: ∀t∈S,-E<=t.1/\t.1<=E
theorem QS.nil {B E:Int}:QS [] (fun _=>0) 0 B E:=⟨.nil,fun _=>rfl,zzA _,(fun t h=>by cases h),(fun t h=>by cases h)⟩
theorem QS.put {S:List (Int×Int)} {f:Int->Int} {k:Nat} {B E e z:Int} (h:QS S f k B E) (hz: -B<=z/\z<=B) (he: -E<=e/\e<=E):QS (fg e z S) (fun x=>f x+if x=e then z else 0) (k+1) B E:=by
 have hB:((k+1:Nat):Int)*B=k*B+B:=by rw [Int.natCast_succ,Int.add_mul,Int.one_mul]
 have hkB:0<=(k:Int)*B:=Int.mul_nonneg (Int.natCast_nonneg _) (by omega);rw [RZ];refine ⟨OW e z S h.asc,fun x=>by rw [NY,h.cf],?_,fun t ht=>?_,fun t ht=>?_⟩
 ·have:=OX e z S;have:=h.len;omega
 ·rw [hB];rcases En e z S t ht with a|a|⟨u,hu,a⟩
  ·have:=h.bnd t a;omega
  ·rw [a];show _<=z/\z<=_;omega
  ·have:=h.bnd u hu
   rw [a];show _<=u.2+z/\u.2+z<=_;omega
 ·rcases En e z S t ht with a|a|⟨u,hu,a⟩
  ·exact h.ex t a
  ·rw [a];exact he
  ·rw [a];exact he
theorem RY (x:Int): ∀S,cfL (fE S) x=cfL S x
 |[]=>rfl
 |t::S=>by
  have ih:=RY x S;by_cases h:t.2=0
  ·have:fE (t::S)=fE S:=by simp [fE,h]
   rw [this,ih];simp only [cfL];split<;>omega
  ·have h':(t.2==0)=false:=by simpa using h
   have:fE (t::S)=t::fE S:=by simp [fE,h']
   rw [this];simp only [cfL,ih]
theorem QS.A3 {S:List (Int×Int)} {f:Int->Int} {k:Nat} {B E:Int} (h:QS S f k B E):aV (fE S) f:=
 ⟨⟨h.asc.sublist List.filter_sublist,fun t ht=>by have:=(List.mem_filter.1 ht).2;simpa using this⟩,fun x=>by rw [RY,h.cf]⟩
inductive iY:Fr->Fr->Prop
 |nil:iY [] []
 |cons {i:Nat} {x y:AV} {fr fr':Fr}:az x y->iY fr fr'->iY ((i,x)::fr) ((i,y)::fr')
theorem iY.refl: ∀fr:Fr,iY fr fr
 |[]=> .nil
 |(_,x)::fr=> .cons (az.refl x) (iY.refl fr)
theorem iY.get {fr fr':Fr} (h:iY fr fr') (t:Nat):az (fget fr t) (fget fr' t):=by
 induction h with
 |nil=>exact az.refl _
 |cons h1 _ ih=>
  simp only [fget]
  split
  ·exact h1
  ·exact ih
theorem Wk.le {fr fr':Fr} {H:Hp} (h:iY fr fr'):Wk fr H fr' H:=fun _ _ _ _ _ ρ _ hs=>⟨ρ,hs.qR fun t=>(h.get t).out _ _ _ _ _ (hs.frv t)⟩
theorem PM (H:Hp) (i j:Nat):hget (H++[(i, .gone)]) j=match hget H j with|some o=>some o|none=>if i=j then some .gone else none:=by
 induction H with
 |nil=>simp [hget]
 |cons p H ih=>
  obtain ⟨k,o⟩:=p;rw [List.cons_append];simp only [hget];by_cases e:k=j
  ·rw [if_pos e,if_pos e]
  ·rw [if_neg e,if_neg e];exact ih
theorem Wk.gone {fr:Fr} {H:Hp} (i:Nat) (h:hget H i=none):Wk fr H fr (H++[(i, .gone)]):=by
 intro B w0 Mx N w ρ a hs;have up: ∀j o,hget H j=some o->hget (H++[(i, .gone)]) j=some o:=fun j o hj=>by rw [PM,hj]
 have dn: ∀j o,hget (H++[(i, .gone)]) j=some o->o= .gone\/hget H j=some o:=fun j o hj=>by
  rw [PM] at hj;cases hq:hget H j with
  |some o'=>rw [hq] at hj;exact .inr hj
  |none=>
   rw [hq] at hj;simp only at hj
   split at hj
   ·cases hj;exact .inl rfl
   ·cases hj
 have dl: ∀j o,hget (H++[(i, .gone)]) j=some o->o.live=true->hget H j=some o:=fun j o hj hl=>by
  rcases dn j o hj with rfl|h2
  ·cases hl
  ·exact h2
 have hM: ∀b,¬MM Mx H ρ b-> ¬MM Mx (H++[(i, .gone)]) ρ b:=fun b hn hm=>hn (by
  rcases hm with h1|⟨id,o,h1,h2,h3⟩
  ·exact .inl h1
  ·exact .inr ⟨id,o,dl id o h1 h2,h2,h3⟩)
 have hc: ∀{v:Value} {x:AV},VR w (MM Mx H ρ) ρ (DD H) v x->VR w (MM Mx (H++[(i, .gone)]) ρ) ρ (DD (H++[(i, .gone)])) v x:=fun hv=>
  hv.carry (zzA _) (fun b _ hm=>⟨rfl,hM b hm⟩) (fun id hd=>⟨let ⟨o,ho⟩:=hd;⟨o,up id o ho⟩,rfl,fun arr t ha=>⟨arr,ha,rfl⟩⟩)
 refine ⟨ρ,hs.below,hs.hB,hs.mx,fun id o h1 h2=>hs.own id o (dl id o h1 h2) h2,fun id o h1=>?_,fun id o bC o' h1 h2 h3 h4 h5=>hs.inj id o bC o' (dl _ _ h1 h2) h2 (dl _ _ h3 h4) h4 h5,fun t=>hc (hs.frv t),hs.defers,hs.size⟩;rcases dn id o h1 with rfl|h2
 ·trivial
 have hr:=hs.objs id o h2;cases o with
 |gone=>trivial
 |cells t c=>
  obtain ⟨g1,arr,g2,g3,g4⟩:=hr;exact ⟨g1,arr,g2,g3,fun j hj=>let ⟨u,hu,hv⟩:=g4 j hj;⟨u,hu,hc hv⟩⟩
 |gmap t ck l=>
  obtain ⟨es,g1,g2,g3⟩:=hr;exact ⟨es,g1,g2,fun j e' q he hl=>let ⟨k1,k2,k3⟩:=g3 j e' q he hl;⟨k1,k2,hc k3⟩⟩
 |iter mid s sn la=>
  obtain ⟨g1,g2,g3⟩:=hr;obtain ⟨om,px⟩:=g1;exact ⟨⟨om,up mid om px⟩,g2,g3⟩
 |imap t l=>
  obtain ⟨g0,es,ck,g1,g2,g3⟩:=hr;exact ⟨g0,es,ck,g1,g2,fun j e' k x he hl=>let ⟨k1,k2,k3⟩:=g3 j e' k x he hl;⟨k1,hc k2,k3⟩⟩
 |fmap t c=>exact hr
set_option maxHeartbeats 8000000
def uY:List (List Nat):=[[25,26,27,28,29,30,31,32,33,34,35,36,37,38],[24,26,27,28,29,30,31,32,33,34,35,36,37,38],[24,25,28,32,33,34,35,36,37,38],[24,25,28,32,33,34,35,36,37,38],[24,25,26,27,32,33,34,35,36,37,38],[24,25,32,33,34,35,36,37,38],[24,25,32,33,34,35,36,37,38],[24,25,32,33,34,35,36,37,38],[24,25,26,27,28,29,30,31,34],[24,25,26,27,28,29,30,31,34],[24,25,26,27,28,29,30,31,32,33],[24,25,26,27,28,29,30,31],[24,25,26,27,28,29,30,31],[24,25,26,27,28,29,30,31],[24,25,26,27,28,29,30,31],[],[],[41],[40,5],[41],[]]
def pZ:List (List Nat):=[[],[0],[0,1],[0,1],[0,1,2,3],[0,1],[0,1],[0,1],[0,1,2,3,4,5,6,7],[0,1,2,3,4,5,6,7],[0,1,2,3,4,5,6,7,8,9],[0,1,2,3,4,5,6,7],[0,1,2,3,4,5,6,7],[0,1,2,3,4,5,6,7],[0,1,2,3,4,5,6,7],[],[],[],[17],[18],[]]
def uX:List (List Nat):=[[51,52,53,54,55,56,57,58,59,60,61,62,63,64],[50,52,53,54,55,56,57,58,59,60,61,62,63,64],[50,51,54,58,59,60,61,62,63,64],[50,51,54,58,59,60,61,62,63,64],[50,51,52,53,58,59,60,61,62,63,64],[50,51,58,59,60,61,62,63,64],[50,51,58,59,60,61,62,63,64],[50,51,58,59,60,61,62,63,64],[50,51,52,53,54,55,56,57,60],[50,51,52,53,54,55,56,57,60],[50,51,52,53,54,55,56,57,58,59],[50,51,52,53,54,55,56,57],[50,51,52,53,54,55,56,57],[50,51,52,53,54,55,56,57],[50,51,52,53,54,55,56,57],[],[],[67],[66,5],[67],[]]
theorem QS.congr {S:List (Int×Int)} {f g:Int->Int} {k:Nat} {B E:Int} (h:QS S f k B E) (e: ∀x,f x=g x):QS S g k B E:=⟨h.asc,fun x=>(h.cf x).trans (e x),h.len,h.bnd,h.ex⟩
theorem Ey {p:List (Int×Int)} {i:Nat} (h:i<p.length):p.take (i+1)=p.take i++[p.getD i (0,0)]:=by
 rw [List.take_add_one,zzB,zzI h];rfl
theorem Vy {p:List (Int×Int)} {i:Nat} (h:i<p.length) (x:Int):cfL (p.take (i+1)) x=cfL (p.take i) x+if x=(p.getD i (0,0)).1 then (p.getD i (0,0)).2 else 0:=by
 rw [Ey h,O6];congr 1;by_cases e:x=(p.getD i (0,0)).1
 ·rw [if_pos e,if_pos e.symm]
 ·rw [if_neg e,if_neg fun g=>e g.symm]
theorem QS.ok {S:List (Int×Int)} {f:Int->Int} {k:Nat} {B E:Int} (h:QS S f k B E) (hk:k<=100000) (hB:0<=B/\B<=1208925819614629174706176):S.length<=100000/\ ∀t∈S,-2596148429267413814265248164610048<=t.2/\t.2<=2596148429267413814265248164610048:=by
 refine ⟨Nat.le_trans h.len hk,fun t ht=>?_⟩;have h1:=h.bnd t ht;have h2:(k:Int)*B<=100000*1208925819614629174706176:=Int.mul_le_mul (by omega) hB.2 hB.1 (by omega);omega
theorem QS.CM {S:List (Int×Int)} {f:Int->Int} {k:Nat} {B:Int} (h:QS S f k B 1048576) (hk:k<=100000) (hf: ∀x,-1125899906842624<=f x/\f x<=1125899906842624):Fn Tryz.prog 104 [qeA S,qsA S] (rpA (fE S)):=
 TY S (Nat.le_trans h.len hk) (fun t ht=>by rw [←Hb h.asc ht,h.cf];exact hf _) h.ex
def jH (S p:List (Int×Int)):List (Int×Int):=p.foldl (fun S t=>fg t.1 t.2 S) S
theorem OV {p:List (Int×Int)} {i:Nat} (h:i<p.length) (S:List (Int×Int)):jH S (p.take (i+1))=fg (p.getD i (0,0)).1 (p.getD i (0,0)).2 (jH S (p.take i)):=by
 rw [Ey h,jH,List.foldl_append];rfl
theorem zF {B E:Int}: ∀(p:List (Int×Int)) {S:List (Int×Int)} {f:Int->Int} {k:Nat},QS S f k B E->(∀t∈p,-B<=t.2/\t.2<=B)->(∀t∈p,-E<=t.1/\t.1<=E)->QS (jH S p) (fun x=>f x+cfL p x) (k+p.length) B E
 |[],S,f,k,h,_,_=>h.congr fun x=>by simp only [cfL];omega
 |t::p,S,f,k,h,hB,hE=>by
  have h1:=zF p (h.put (hB t (zzD ..)) (hE t (zzD ..))) (fun u hu=>hB u (zzE _ hu)) (fun u hu=>hE u (zzE _ hu));have e:k+(t::p).length=k+1+p.length:=by rw [zzG];omega
  rw [e];refine QS.congr h1 fun x=>?_;simp only [cfL];by_cases hx:x=t.1
  ·rw [if_pos hx,if_pos hx.symm];omega
  ·rw [if_neg hx,if_neg fun g=>hx g.symm];omega
def sj (S:List (Int×Int)) (t:Int×Int) (q:List (Int×Int)):List (Int×Int):=q.foldl (fun S u=>fg (t.1+u.1) (t.2*u.2) S) S
def nL (S p q:List (Int×Int)):List (Int×Int):=p.foldl (fun S t=>sj S t q) S
theorem Vx {q:List (Int×Int)} {i:Nat} (h:i<q.length) (S:List (Int×Int)) (t:Int×Int):sj S t (q.take (i+1))=fg (t.1+(q.getD i (0,0)).1) (t.2*(q.getD i (0,0)).2) (sj S t (q.take i)):=by
 rw [Ey h,sj,List.foldl_append];rfl
theorem Vw {p:List (Int×Int)} {i:Nat} (h:i<p.length) (S q:List (Int×Int)):nL S (p.take (i+1)) q=sj (nL S (p.take i) q) (p.getD i (0,0)) q:=by
 rw [Ey h,nL,List.foldl_append];rfl
theorem FX {B E:Int} (t:Int×Int): ∀(q:List (Int×Int)) {S:List (Int×Int)} {f:Int->Int} {k:Nat},QS S f k B E->(∀u∈q,-B<=t.2*u.2/\t.2*u.2<=B)->(∀u∈q,-E<=t.1+u.1/\t.1+u.1<=E)->QS (sj S t q) (fun x=>f x+t.2*cfL q (x-t.1)) (k+q.length) B E
 |[],S,f,k,h,_,_=>h.congr fun x=>by simp only [cfL,Int.mul_zero];omega
 |u::q,S,f,k,h,hB,hE=>by
  have h1:=FX t q (h.put (hB u (zzD ..)) (hE u (zzD ..))) (fun v hv=>hB v (zzE _ hv)) (fun v hv=>hE v (zzE _ hv));have e:k+(u::q).length=k+1+q.length:=by rw [zzG];omega
  rw [e];refine QS.congr h1 fun x=>?_;simp only [cfL,Int.mul_add];by_cases hx:x=t.1+u.1
  ·rw [if_pos hx,if_pos (by omega)];omega
  ·rw [if_neg hx,if_neg (by omega)];omega
theorem FW {B E:Int} (q:List (Int×Int)): ∀(p:List (Int×Int)) {S:List (Int×Int)} {f:Int->Int} {k:Nat},QS S f k B E->(∀t∈p,∀u∈q,-B<=t.2*u.2/\t.2*u.2<=B)->(∀t∈p,∀u∈q,-E<=t.1+u.1/\t.1+u.1<=E)->QS (nL S p q) (fun x=>f x+cvL p (cfL q) x) (k+p.length*q.length) B E
 |[],S,f,k,h,_,_=>by
  rw [show k+[].length*q.length=k by simp];exact h.congr fun x=>by simp only [cvL];omega
 |t::p,S,f,k,h,hB,hE=>by
  have h1:=FW q p (FX t q h (hB t (zzD ..)) (hE t (zzD ..))) (fun v hv=>hB v (zzE _ hv)) (fun v hv=>hE v (zzE _ hv));have e:k+(t::p).length*q.length=k+q.length+p.length*q.length:=by rw [zzG,Nat.succ_mul];omega
  rw [e];refine QS.congr h1 fun x=>?_;simp only [cvL];omega
theorem vi {p:List (Int×Int)} {i:Nat} {t:Int×Int} (h:t∈p.take i):t∈p:=List.mem_of_mem_take h
theorem NX {p q:List (Int×Int)} {f g:Int->Int} (hp:aV p f) (hq:aV q g) (hs: ∀e,f e≠0-> -1000<=e/\e<=1000) (ht: ∀e,g e≠0-> -1000<=e/\e<=1000)
  (hf: ∀e,-562949953421312<=f e/\f e<=562949953421312) (hg: ∀e,-562949953421312<=g e/\g e<=562949953421312):
  ∃r,aV r (fun e=>f e+g e)/\Fn Tryz.prog 107 [rpA p,rpA q] (rpA r):=by
 have lp:=hp.len hs;have lq:=hq.len ht;have bp: ∀t∈p,-562949953421312<=t.2/\t.2<=562949953421312:=fun t h=>by rw [(hp.mem h).1];exact hf _
 have bq: ∀t∈q,-562949953421312<=t.2/\t.2<=562949953421312:=fun t h=>by rw [(hq.mem h).1];exact hg _
 have ep: ∀t∈p,-1048576<=t.1/\t.1<=1048576:=fun t h=>by have:=hs _ (hp.mem h).2;omega
 have eq: ∀t∈q,-1048576<=t.1/\t.1<=1048576:=fun t h=>by have:=ht _ (hq.mem h).2;omega
 have s1: ∀i,QS (jH [] (p.take i)) _ _ 562949953421312 1048576:=fun i=>zF (p.take i) QS.nil (fun t h=>bp t (vi h)) (fun t h=>ep t (vi h));have yN:=zF p QS.nil bp ep;have s2: ∀i,QS (jH (jH [] p) (q.take i)) _ _ 562949953421312 1048576:=fun i=>zF (q.take i) yN (fun t h=>bq t (vi h)) (fun t h=>eq t (vi h));have XR:=zF q yN bq eq
 have dY:QS (jH (jH [] p) q) (fun e=>f e+g e) _ _ _:=XR.congr fun x=>by rw [hp.cf,hq.cf];omega
 refine ⟨fE (jH (jH [] p) q),dY.A3,?_⟩;have hC:=dY.CM (by omega) (fun x=>by have:=hf x;have:=hg x;omega);refine Fn.ai [.cell 4 49] Tryz.func107 rfl rfl (by decide) (by simp [Tryz.ntmps107]) ?_;rw [Tryz.ntmps107]
 repeat' (first|omega|(try apply ag);simp only [go_sem,sevalprocAttr]|apply ae<;>(intro h_;(try simp only [h_]);revert h_)|apply And.intro|with_reducible intro h_|trivial|simp only [go_sem,ah];omega)
 refine aR.intro (fun n fr H=> ∃i:Nat,i<=p.length/\n=p.length-i/\fr=[(7,I i),(6,qsA (jH [] (p.take i))),(5,qeA (jH [] (p.take i))),(4, .ptr 2 0),(3, .ptr 1 0),(2, .ptr 0 0)]/\H=[(2, .cells 49 (.lst [.nils, .bool false])),(1, .cells 49 (.lst [tmA q, .bool false])),(0, .cells 49 (.lst [tmA p, .bool false]))]) ?_ ?_
 ·refine ⟨_,_,_,?_,0,by omega,rfl,rfl,rfl⟩;refine Wk.trans (Wk.sub (fr':=[(7,I 0),(6, .nils),(5, .nils),(4, .ptr 2 0),(3, .ptr 1 0),(2, .ptr 0 0)]) ?_ ?_) (Wk.le (.cons (az.refl _) (.cons (az.nils (by decide) rfl) (.cons (az.nils (by decide) rfl) (iY.refl _)))))<;>(simp only [go_sem,sevalprocAttr,yaj])
 rintro n fr H ⟨i,hi,rfl,rfl,rfl⟩;by_cases bH:i<p.length
 ·have bi:decide ((i:Int)<p.length)=true:=by simp;omega
  have g0:=kJ p i bH;have g1:=nP p i bH;have hm:=iO bH;have hlen:=ya9 p;have hP:=Ii (p.getD i (0,0)).2 1 (by have:=bp _ hm;omega) (by decide);rw [Int.mul_one] at hP;have lW:=Gb (jH [] (p.take i)) (p.getD i (0,0)).1 (p.getD i (0,0)).2 ((s1 i).ok (by rw [List.length_take];omega) (by decide)).1 (by have:=bp _ hm;omega) ((s1 i).ok (by rw [List.length_take];omega) (by decide)).2
  rw [←OV bH] at lW
  repeat' (first|omega|(first|apply ag|(refine aj.intro (id:=8) uY pZ (by decide+kernel) mixed ?_)|(refine aj.intro (id:=12) uX pZ (by decide+kernel) mixed ?_)|skip);simp only [go_sem,sevalprocAttr,bi,g0,g1,hlen,↓reduceIte,reduceCtorEq,uY,pZ,uX]|apply ae<;>(intro h_;(try simp only [h_]);revert h_)|apply And.intro|with_reducible intro h_|trivial|simp only [go_sem,ah];omega)
  refine ⟨bI.fn rfl hP ?_⟩;simp only [go_sem,sevalprocAttr,bi,g0,g1,hlen,ja,yaj];refine ⟨bI.fn rfl lW ?_⟩;simp only [go_sem,sevalprocAttr,bi,g0,g1,hlen,ja,yaj]
  repeat' (first|omega|(first|apply ag|(refine aj.intro (id:=8) uY pZ (by decide+kernel) mixed ?_)|(refine aj.intro (id:=12) uX pZ (by decide+kernel) mixed ?_)|skip);simp only [go_sem,sevalprocAttr,bi,g0,g1,hlen,↓reduceIte,reduceCtorEq,uY,pZ,uX]|apply ae<;>(intro h_;(try simp only [h_]);revert h_)|apply And.intro|with_reducible intro h_|trivial|simp only [go_sem,ah];omega)
  refine ⟨_,_,_,?_,?_,⟨i+1,by omega,rfl,rfl,rfl⟩⟩
  ·omega
  ·refine Wk.sub ?_ ?_<;>(simp only [go_sem,sevalprocAttr,yaj,ja])
 obtain rfl:i=p.length:=by omega
 have bi:decide ((p.length:Int)<p.length)=false:=by simp
 rw [List.take_length]
 repeat' (first|omega|(try apply ag);simp only [go_sem,sevalprocAttr,bi]|apply ae<;>(intro h_;(try simp only [h_]);revert h_)|apply And.intro|with_reducible intro h_|trivial|simp only [go_sem,ah];omega)
 refine aR.intro (fun n fr H=> ∃i:Nat,i<=q.length/\n=q.length-i/\fr=[(8,I i),(6,qsA (jH (jH [] p) (q.take i))),(5,qeA (jH (jH [] p) (q.take i))),(4, .ptr 2 0),(3, .ptr 1 0),(2, .ptr 0 0)]/\H=[(2, .cells 49 (.lst [.nils, .bool false])),(1, .cells 49 (.lst [tmA q, .bool false])),(0, .cells 49 (.lst [tmA p, .bool false]))]) ?_ ?_
 ·refine ⟨_,_,_,?_,0,by omega,rfl,rfl,rfl⟩;have e0:jH (jH [] p) (q.take 0)=jH [] p:=rfl;rw [e0];refine Wk.sub ?_ ?_<;>(simp only [go_sem,sevalprocAttr,yaj,ja])
 clear hi bi bH;rintro n fr H ⟨i,hi,rfl,rfl,rfl⟩;by_cases bH:i<q.length
 ·have bi:decide ((i:Int)<q.length)=true:=by simp;omega
  have g0:=kJ q i bH;have g1:=nP q i bH;have hm:=iO bH;have hlen:=ya9 q;have hP:=Ii (q.getD i (0,0)).2 1 (by have:=bq _ hm;omega) (by decide);rw [Int.mul_one] at hP;have lW:=Gb (jH (jH [] p) (q.take i)) (q.getD i (0,0)).1 (q.getD i (0,0)).2 ((s2 i).ok (by rw [List.length_take];omega) (by decide)).1 (by have:=bq _ hm;omega) ((s2 i).ok (by rw [List.length_take];omega) (by decide)).2
  rw [←OV bH] at lW
  repeat' (first|omega|(first|apply ag|(refine aj.intro (id:=8) uY pZ (by decide+kernel) mixed ?_)|(refine aj.intro (id:=12) uX pZ (by decide+kernel) mixed ?_)|skip);simp only [go_sem,sevalprocAttr,bi,g0,g1,hlen,↓reduceIte,reduceCtorEq,uY,pZ,uX]|apply ae<;>(intro h_;(try simp only [h_]);revert h_)|apply And.intro|with_reducible intro h_|trivial|simp only [go_sem,ah];omega)
  refine ⟨bI.fn rfl hP ?_⟩;simp only [go_sem,sevalprocAttr,bi,g0,g1,hlen,ja,yaj];refine ⟨bI.fn rfl lW ?_⟩;simp only [go_sem,sevalprocAttr,bi,g0,g1,hlen,ja,yaj]
  repeat' (first|omega|(first|apply ag|(refine aj.intro (id:=8) uY pZ (by decide+kernel) mixed ?_)|(refine aj.intro (id:=12) uX pZ (by decide+kernel) mixed ?_)|skip);simp only [go_sem,sevalprocAttr,bi,g0,g1,hlen,↓reduceIte,reduceCtorEq,uY,pZ,uX]|apply ae<;>(intro h_;(try simp only [h_]);revert h_)|apply And.intro|with_reducible intro h_|trivial|simp only [go_sem,ah];omega)
  refine ⟨_,_,_,?_,?_,⟨i+1,by omega,rfl,rfl,rfl⟩⟩
  ·omega
  ·refine Wk.sub ?_ ?_<;>(simp only [go_sem,sevalprocAttr,yaj,ja])
 ·obtain rfl:i=q.length:=by omega
  have bi:decide ((q.length:Int)<q.length)=false:=by simp
  rw [List.take_length]
  repeat' (first|omega|(try apply ag);simp only [go_sem,sevalprocAttr,bi]|apply ae<;>(intro h_;(try simp only [h_]);revert h_)|apply And.intro|with_reducible intro h_|trivial|simp only [go_sem,ah];omega)
  refine ⟨au.fn rfl hC ?_⟩
  repeat' (first|omega|(try apply ag);simp only [go_sem,sevalprocAttr]|apply ae<;>(intro h_;(try simp only [h_]);revert h_)|apply And.intro|with_reducible intro h_|trivial|simp only [go_sem,ah];omega)
  all_goals exact az.refl _
end Go.Proofs.YtmdjdekgakidhaaGreatDoor
