/- Plain: the states of a diagram, their circles, and what Bracket counts. -/
import Derived.Test.YtphjphpmfflfpaaGreatDoorZi
import Derived.Test.YtphjphpmfflfpaaGreatDoorTc7
import Derived.Test.YtphjphpmfflfpaaGreatDoorZg
namespace Go.Proofs.YtphjphpmfflfpaaGreatDoor
set_option linter.unusedSimpArgs false
set_option linter.unusedVariables false
structure bd (m:List Int) (n:Nat):Prop where
 ok:iP m n
 inv: ∀x:Nat,x<4*n->m.getD (m.getD x 0).toNat 0=x
 ne: ∀x:Nat,x<4*n->m.getD x 0≠x
theorem fA {s m:List Int} {L:Int} (h:dm s m L=true):bd m s.length:=by
 have v:=jC h;refine ⟨v.dd.ok,v.dd.inv,fun x hx=>?_⟩
 have:=v.mt x hx
 omega
abbrev bF (m:List Int) (n:Nat) (ch:Nat->Bool):Nat:=roots (gY m ch n)
theorem AK {m:List Int} {ch ch':Nat->Bool}: ∀{n:Nat},(∀c,c<n->ch c=ch' c)->gY m ch n=gY m ch' n
 |0,_=>rfl
 |n+1,h=>by
  have:=AK (m:=m) (n:=n) fun c hc=>h c (by omega)
  simp only [gY,h n (by omega),this]
def gG (b:Bool):Nat:=if b then 1 else 0
theorem VE (ch:Nat->Bool):pI (fun c=>gG (ch c))=fun x=>aB (ch (x/4).toNat) x:=by
 funext x;unfold pI gG;dsimp only;cases ch (x/4).toNat<;>rfl
section
variable {m:List Int} {n:Nat} (hp:bd m n)
include hp
theorem DO (ch:Nat->Bool):dY n (fun x=>m.getD x.toNat 0) (pI (fun c=>gG (ch c))) (gY m ch n):=by
 rw [VE];exact yc hp.ok hp.inv hp.ne
theorem DN (s:Nat->Nat):dY n (fun x=>m.getD x.toNat 0) (pI s) (crN (fun x=>m.getD x.toNat 0) (pI s) (4*n) (4*n)):=v8 (D6 hp.ok hp.inv hp.ne s)
theorem Ge (ch:Nat->Bool):bF m n ch=jZ m n (fun c=>gG (ch c)):=Ev (DO hp ch) (DN hp _)
theorem PH (s:Nat->Nat) {c:Nat} (hc:c<n): ∃K t0,t0<3/\ ∀t,t<3->jZ m n (fun x=>if x=c then t else s x)=if t=t0 then K+1 else K:=by
 refine three (c:=c) (j:=fun t=>pI (fun x=>if x=c then t else s x)) hc (fun t _=>D6 hp.ok hp.inv hp.ne _) (fun t _=>Be _) (fun t _ x hx=>?_) (fun t _ x h0 hx=>?_) (fun t _=>DN hp _)
 ·simp only [pI];rw [if_pos (by omega)]
 ·simp only [pI];rw [if_neg (by omega),if_neg (by omega)]
theorem VD {ch ch':Nat->Bool} {c:Nat} (hc:c<n) (h: ∀x,x≠c->ch x=ch' x):bF m n ch<=bF m n ch'+1:=by
 obtain ⟨K,t0,_,h3⟩:=PH hp (fun x=>gG (ch x)) hc;have e1:(fun x=>gG (ch x))=fun x=>if x=c then gG (ch c) else gG (ch x):=by
  funext x;by_cases e:x=c
  ·rw [if_pos e,e]
  ·rw [if_neg e]
 have e2:(fun x=>gG (ch' x))=fun x=>if x=c then gG (ch' c) else gG (ch x):=by
  funext x;by_cases e:x=c
  ·rw [if_pos e,e]
  ·rw [if_neg e,h x e]
 have Rx: ∀b,gG b<3:=fun b=>by cases b<;>decide
 rw [Ge hp,Ge hp,e1,e2,h3 _ (Rx _),h3 _ (Rx _)]
 split<;>split<;>omega
def difS (b:Bool) (ch:Nat->Bool):Nat->Nat
 |0=>0
 |c+1=>difS b ch c+if ch c=b then 0 else 1
omit hp in
theorem HD (ch:Nat->Bool): ∀c,difS false ch c+difS true ch c=c
 |0=>rfl
 |c+1=>by have:=HD ch c;simp only [difS];cases ch c<;>simp<;>omega
theorem N9 (b:Bool) (ch:Nat->Bool): ∀i,i<=n->bF m n (fun c=>if c<i then ch c else b)<=bF m n (fun _=>b)+difS b ch i
 |0,_=>by simp [difS]
 |i+1,hi=>by
  have ih:=N9 b ch i (by omega);simp only [difS];by_cases hb:ch i=b
  ·rw [if_pos hb]
   have:(fun c=>if c<i+1 then ch c else b)=fun c=>if c<i then ch c else b:=by
    funext c;by_cases e:c=i
    ·subst e;rw [if_pos (by omega),if_neg (by omega),hb]
    ·by_cases e2:c<i
     ·rw [if_pos (by omega),if_pos e2]
     ·rw [if_neg (by omega),if_neg e2]
   rw [this];exact ih
  ·rw [if_neg hb]
   have:=VD hp (c:=i) (by omega) (ch:=fun c=>if c<i+1 then ch c else b) (ch':=fun c=>if c<i then ch c else b) fun x hx=>by
    by_cases e2:x<i
    ·rw [if_pos (by omega),if_pos e2]
    ·rw [if_neg (by omega),if_neg e2]
   omega
theorem DY (b:Bool) (ch:Nat->Bool):bF m n ch<=bF m n (fun _=>b)+difS b ch n:=by
 have:=N9 hp b ch n (Nat.le_refl _)
 have e:bF m n (fun c=>if c<n then ch c else b)=bF m n ch:=by
  unfold bF;rw [AK fun c hc=>by rw [if_pos hc]]
 omega
theorem HB:bF m n (fun _=>false)+bF m n (fun _=>true)<=3*n:=by
 have h0:=DO hp (fun _=>false);have h1:=DO hp (fun _=>true);refine Wb (D6 hp.ok hp.inv hp.ne _) (D6 hp.ok hp.inv hp.ne _) h0 h1 fun x hx=>?_;have V:=Oo (x/4);show pr3 0 x≠pr3 1 x;rcases (show x=4*(x/4)\/x=4*(x/4)+1\/x=4*(x/4)+2\/x=4*(x/4)+3 by omega) with h|h|h|h<;>(rw [h];omega)
theorem s5 (ch:Nat->Bool):bF m n ch<=2*n:=by
 have h1:=DY hp false ch;have h2:=DY hp true ch;have h3:=HB hp;have h4:=HD ch n;omega
theorem EF (ch:Nat->Bool) (hn:0<n):1<=bF m n ch:=GQ n (DO hp ch) hn
end
def da (b:Nat) (c:Nat):Bool:=b/2^c % 2==1
def gR (b:Nat):Nat->Nat
 |0=>0
 |c+1=>gR b c+b/2^c % 2
theorem MS (b:Nat): ∀c,gR b c<=c
 |0=>Nat.le_refl _
 |c+1=>by have:=MS b c;simp only [gR];omega
theorem yD (b:Nat): ∀c,gR b c=difS false (da b) c
 |0=>rfl
 |c+1=>by
  simp only [gR,difS,yD b c,da];by_cases h:b/2^c % 2=1
  ·simp [h]
  ·have:b/2^c % 2=0:=by omega
   simp [this]
def cN (m:List Int) (n L:Nat) (b:Nat):Nat:=bF m n (da b)+L
def wB (n:Nat) (b:Nat):Int:=(n:Int)-2*gR b n
def bA (m:List Int) (n L:Nat) (j:Nat) (e:Int):Int:=oU (2^n) (cN m n L) (wB n) j e
section
variable {m:List Int} {n L:Nat} (hp:bd m n)
include hp
theorem wI {j:Nat} {e:Int} (h:bA m n L j e≠0): -(n:Int)-2*(bF m n (fun _=>true)+L)+2*j<=e/\e<=n+2*(bF m n (fun _=>false)+L)-2*j:=by
 obtain ⟨k,_,hj,h1,h2⟩:=VM h;have a1:=DY hp false (da k);have a2:=DY hp true (da k);have a3:=HD (da k) n;have a4:=yD k n;unfold wB cN at*;omega
theorem Qk (b:Nat):cN m n L b<=2*n+L:=by have:=s5 hp (da b);unfold cN;omega
theorem Uy {j M:Nat} (hM:2*n+L<=M+j) (e:Int): -((2^(M+n):Nat):Int)<=bA m n L j e/\bA m n L j e<=((2^(M+n):Nat):Int):=by
 have:=Vc (K:=2^n) (c:=cN m n L) (w:=wB n) (j:=j) (M:=M) (fun k _=>by have:=Qk hp (L:=L) k;omega) e
 rw [Nat.pow_add,Int.natCast_mul,←Int.neg_mul];exact this
omit hp in
theorem G7: ∀i,i<=L-> ∀e,bA m n L (L-i) e=dmn i (bA m n L L) e
 |0,_,e=>rfl
 |i+1,hi,e=>by
  have h1:=On (K:=2^n) (c:=cN m n L) (w:=wB n) (L-(i+1)) e;rw [show L-(i+1)+1=L-i by omega] at h1;have h0:zk (2^n) (cN m n L) (wB n) (L-(i+1)) e=0:=by
   have:zk (2^n) (cN m n L) (wB n) (L-(i+1)) e=sm (fun _=>0) (2^n):=iQ fun k _=>by
    rw [if_neg];rintro ⟨h2,_⟩;unfold cN at h2;omega
   rw [this,qx];omega
  rw [h0] at h1;show oU _ _ _ _ _=c9 (dmn i (bA m n L L)) e;rw [h1];simp only [c9,←G7 i (by omega),Int.add_zero];rfl
theorem Ux (j:Nat):dw (bA m n L j):=by
 refine ⟨n+2*(bF m n (fun _=>true)+L)+2*(bF m n (fun _=>false)+L)+2*j,fun e he=>?_⟩
 have:=wI hp he
 omega
omit hp in
theorem G6 {p:List (Int×Int)} (ha:bG p) {f:Int->Int} (hf: ∀e,cfL p e=f e) {a b:Int} (hs: ∀e,f e≠0->a<=e/\e<=b): ∀t∈p,a<=t.1/\t.1<=b:=fun t ht=>hs _ (by rw [←hf,wD ha ht];exact ha.nz t ht)
theorem WR (hn:n<=9) {j:Nat} {p:List (Int×Int)} (ha:bG p) (hf: ∀e,cfL p e=bA m n L j e) (aw:0<p.length):fm p-aI p+4<=64+8*(p.length:Int):=by
 have r:=G6 ha hf fun e he=>wI hp he;have kX:=r _ (lY (p:=p) (i:=0) aw);have uu:=r _ (lY (p:=p) (i:=p.length-1) (by omega));have h3:=HB hp;unfold fm aI;by_cases h1:p.length=1
 ·rw [h1];simp only [Nat.sub_self];omega
 ·by_cases hj:L<=j
  ·omega
  ·have:=Ir (L-j) p (bA m n L L) ha (Ux hp L) (fun e=>by rw [hf,←G7 (L-j) (by omega),show L-(L-j)=j by omega]) (fun h=>by rw [h] at aw;simp at aw)
   omega
end
theorem MR (f:Nat->Nat->Int) (a:Nat): ∀b,sm (fun x=>sm (fun k=>f x k) b) a=sm (fun k=>sm (fun x=>f x k) a) b
 |0=>by simp only [sm];rw [qx];omega
 |b+1=>by simp only [sm];rw [←MR f a b,qp]
theorem DM {f:Nat->Int} {a:Nat}: ∀{n:Nat},a<n->(∀x,x<n->x≠a->f x=0)->sm f n=f a
 |n+1,ha,h=>by
  simp only [sm];by_cases e:a=n
  ·subst e;rw [iQ (g:=fun _=>0) fun x hx=>h x (by omega) (by omega),qx];omega
  ·rw [DM (n:=n) (by omega) fun x hx aw=>h x (by omega) aw,h n (by omega) (by omega)];omega
set_option linter.unusedSectionVars false
structure qT (m:List Int) (n:Nat) (P:List Nat) (ends:List Int):Prop where
 nd:ends.Nodup
 mem: ∀h:Int,h∈ends↔ax n h/\(h/4).toNat∈P/\ ¬(m.getD h.toNat 0/4).toNat∈P
structure nA (T:List Nat) (E:Nat):Prop where
 len:T.length=E
 bP: ∀x,x<E->T.getD x 0<E
 inv: ∀x,x<E->T.getD (T.getD x 0) 0=x
 ne: ∀x,x<E->T.getD x 0≠x
def bST (m:List Int) (P:List Nat) (ends:List Int) (T:List Nat) (ch:Nat->Bool) (h:Int):Int:=
 match ndF ends ends.length h with
 |some x=>ends.getD (T.getD x.toNat 0) 0
 |none=>if (h/4).toNat∈P then m.getD h.toNat 0 else aB (ch (h/4).toNat) h
theorem G5 (hs:List Int) (h:Int): ∀k x,ndF hs k h=some x->0<=x/\x<k/\hs.getD x.toNat 0=h
 |0,x,e=>by cases e
 |k+1,x,e=>by
  simp only [ndF] at e
  split at e
  ·rename_i e1;cases e;exact ⟨by omega,by omega,e1.symm⟩
  ·obtain ⟨h1,h2,h3⟩:=G5 hs h k x e;exact ⟨h1,by omega,h3⟩
theorem HA (hs:List Int) (h:Int): ∀k,ndF hs k h=none-> ∀x,x<k->hs.getD x 0≠h
 |0,_,x,hx=>by omega
 |k+1,e,x,hx=>by
  simp only [ndF] at e
  split at e
  ·cases e
  ·rename_i e1
   by_cases hk:x=k
   ·rw [hk];exact fun g=>e1 g.symm
   ·exact HA hs h k e x (by omega)
theorem QW (hs:List Int) (h:Int): ∀k,(∀x,x<k->hs.getD x 0≠h)->ndF hs k h=none
 |0,_=>rfl
 |k+1,hx=>by
  simp only [ndF];rw [if_neg fun e=>hx k (by omega) e.symm];exact QW hs h k fun x h1=>hx x (by omega)
theorem sU {l:List Int} {h:Int}:h∈l↔ ∃x,x<l.length/\l.getD x 0=h:=by
 rw [List.mem_iff_getElem];constructor
 ·rintro ⟨x,hx,e⟩;exact ⟨x,hx,by simp [List.getD_eq_getElem?_getD,hx,e]⟩
 ·rintro ⟨x,hx,e⟩;exact ⟨x,hx,by simpa [List.getD_eq_getElem?_getD,hx] using e⟩
theorem EI {l:List Int} (h:l.Nodup) {x y:Nat} (hx:x<l.length) (hy:y<l.length) (e:l.getD x 0=l.getD y 0):x=y:=by
 simp only [List.getD_eq_getElem?_getD,List.getElem?_eq_getElem hx,List.getElem?_eq_getElem hy,Option.getD_some] at e;exact (List.getElem_inj h).1 e
theorem QV {hs:List Int} (h:hs.Nodup) {x:Nat} (hx:x<hs.length):ndF hs hs.length (hs.getD x 0)=some (x:Int):=by
 cases hq:ndF hs hs.length (hs.getD x 0) with
 |none=>exact absurd rfl (HA hs _ _ hq x hx)
 |some y=>
  obtain ⟨h1,h2,h3⟩:=G5 hs _ _ _ hq
  have:=EI h (by omega) hx h3
  congr 1;omega
theorem Uw {hs:List Int} {h:Int} (hn:h∉hs):ndF hs hs.length h=none:=QW hs h _ fun x hx e=>hn (sU.2 ⟨x,hx,e⟩)
def jL (b:Bool):List Int:=if b then [3,2,1,0] else [1,0,3,2]
theorem Qj (b:Bool) {t:Nat} (ht:t<4):0<=(jL b).getD t 0/\(jL b).getD t 0<=3/\(jL b).getD ((jL b).getD t 0).toNat 0=t/\(jL b).getD t 0≠t:=by
 have:t=0\/t=1\/t=2\/t=3:=by omega
 rcases this with rfl|rfl|rfl|rfl<;>cases b<;>decide
theorem BF (b:Bool) (c:Nat) {t:Nat} (ht:t<4):aB b (4*(c:Int)+t)=4*c+(jL b).getD t 0:=by
 obtain ⟨h0,h1,h2,h3,g0,g1,g2,g3⟩:=zM c;have e0:((4*c:Nat):Int)=4*(c:Int)+(0:Nat):=by omega
 have e1:((4*c+1:Nat):Int)=4*(c:Int)+(1:Nat):=by omega
 have e2:((4*c+2:Nat):Int)=4*(c:Int)+(2:Nat):=by omega
 have e3:((4*c+3:Nat):Int)=4*(c:Int)+(3:Nat):=by omega
 rw [e0] at h0 g0;rw [e1] at h1 g1;rw [e2] at h2 g2;rw [e3] at h3 g3
 have:t=0\/t=1\/t=2\/t=3:=by omega
 rcases this with rfl|rfl|rfl|rfl<;>cases b
 ·rw [g0];simp [jL]
 ·rw [h0];simp [jL]
 ·rw [g1];simp [jL]
 ·rw [h1];simp [jL]
 ·rw [g2];simp [jL]
 ·rw [h2];simp [jL]
 ·rw [g3];simp [jL]
 ·rw [h3];simp [jL]
def fk (aS:Nat) (T:List Nat) (b:Bool) (x:Nat):Nat:=if x<aS then T.getD x 0 else aS+((jL b).getD (x-aS) 0).toNat
abbrev aU (m ends:List Int) (c:Nat):List Int:=cw (kh (bu ends c) m) (ends.length+4) (ends.length+4)
abbrev cC (m ends:List Int) (c:Nat):List Int:=cw (mg (bu ends c) m) (ends.length+4) (ends.length+4)
abbrev aG (m ends:List Int) (c:Nat):List Int:=aO (bu ends c) m (ends.length+4)
theorem MQ {ends:List Int} (c:Int) {x:Nat} (hx:x<ends.length):(bu ends c).getD x 0=ends.getD x 0:=by
 simp only [bu,List.getD_eq_getElem?_getD,List.getElem?_append_left hx]
theorem Nu (ends:List Int) (c:Int) {t:Nat} (ht:t<4):(bu ends c).getD (ends.length+t) 0=4*c+t:=by
 simp only [bu,List.getD_eq_getElem?_getD,List.getElem?_append_right (Nat.le_add_right _ _),Nat.add_sub_cancel_left]
 have:t=0\/t=1\/t=2\/t=3:=by omega
 rcases this with rfl|rfl|rfl|rfl<;>simp
section
variable {m:List Int} {n:Nat} {P:List Nat} {ends:List Int} {c:Nat} (hp:bd m n) (he:qT m n P ends) (hc:c<n) (aV:c∉P)
include he
theorem qT.at {x:Nat} (hx:x<ends.length):ax n (ends.getD x 0)/\(ends.getD x 0/4).toNat∈P/\ ¬(m.getD (ends.getD x 0).toNat 0/4).toNat∈P:=(he.mem _).1 (sU.2 ⟨x,hx,rfl⟩)
include hc aV
theorem FU:(bu ends c).Nodup:=by
 unfold bu;rw [List.nodup_append];refine ⟨he.nd,by simp;omega,fun x hx y hy e=>?_⟩;subst e
 have:=((he.mem x).1 hx).2.1
 have h4:(x/4).toNat=c:=by
  simp only [List.mem_cons,List.not_mem_nil,or_false] at hy;omega
 rw [h4] at this;exact aV this
theorem zU (h:Int):h∈bu ends c↔h∈ends\/(0<=h/\h/4=c):=by
 unfold bu;simp only [List.mem_append,List.mem_cons,List.not_mem_nil,or_false];constructor
 ·rintro (h1|h1)
  ·exact .inl h1
  ·right;omega
 ·rintro (h1|⟨h1,h2⟩)
  ·exact .inl h1
  ·right;omega
theorem wo {x:Nat} (hx:x<ends.length+4):ax n ((bu ends c).getD x 0)/\((bu ends c).getD x 0/4).toNat∈c::P:=by
 have hm:(bu ends c).getD x 0∈bu ends c:=sU.2 ⟨x,by rw [qq];exact hx,rfl⟩;rcases (zU he hc aV _).1 hm with h1|⟨h1,h2⟩
 ·obtain ⟨g1,g2,_⟩:=(he.mem _).1 h1;exact ⟨g1,List.mem_cons_of_mem _ g2⟩
 ·exact ⟨⟨h1,by omega⟩,by rw [h2];simp⟩
include hp
theorem yA {x:Nat} (hx:x<ends.length+4) {y:Int} (h:eG (bu ends c) m x=some y):0<=y/\y<ends.length+4/\(bu ends c).getD y.toNat 0=m.getD ((bu ends c).getD x 0).toNat 0:=by
 unfold eG at h;rw [qq] at h
 have:=G5 _ _ _ _ h
 exact ⟨this.1,by omega,this.2.2⟩
theorem Uv {x:Nat} (hx:x<ends.length+4) (h:eG (bu ends c) m x=none):m.getD ((bu ends c).getD x 0).toNat 0∉bu ends c:=by
 unfold eG at h;intro hm;obtain ⟨y,hy,e⟩:=sU.1 hm;exact HA _ _ _ h y hy e
theorem Jk {x y:Nat} (hx:x<ends.length+4) (h:eG (bu ends c) m x=some (y:Int)):eG (bu ends c) m y=some (x:Int):=by
 obtain ⟨h1,h2,h3⟩:=yA hp he hc aV hx h;rw [Int.toNat_natCast] at h3;have hr:=(wo he hc aV hx).1;unfold ax at hr
 have:=hp.inv ((bu ends c).getD x 0).toNat (by omega)
 unfold eG;rw [h3,this,Int.toNat_of_nonneg hr.1];exact QV (FU he hc aV) (by rw [qq];exact hx)
theorem DX {x:Nat} (hx:x<ends.length+4):(aU m ends c).getD x 0=kh (bu ends c) m x:=Oe _ _ _ hx
theorem wA {x:Nat} (hx:x<ends.length+4):(aU m ends c).getD x 0<0↔eG (bu ends c) m x=none:=by
 rw [DX hp he hc aV hx];unfold kh;cases hq:eG (bu ends c) m x with
 |none=>simp
 |some y=>have:=yA hp he hc aV hx hq;simp;omega
theorem Af {x:Nat} (hx:x<ends.length+4) (h:0<=(aU m ends c).getD x 0): ∃y:Nat,y<ends.length+4/\(aU m ends c).getD x 0=y/\eG (bu ends c) m x=some (y:Int):=by
 rw [DX hp he hc aV hx] at h⊢;unfold kh at h⊢;cases hq:eG (bu ends c) m x with
 |none=>rw [hq] at h;simp at h
 |some y=>
  have:=yA hp he hc aV hx hq
  exact ⟨y.toNat,by omega,by simp;omega,by congr 1;omega⟩
end
section
variable {m:List Int} {n:Nat} {P:List Nat} {ends:List Int} {c:Nat} {T:List Nat} (hp:bd m n) (he:qT m n P ends) (hT:nA T ends.length)
include hp he hT
theorem DW (ch:Nat->Bool) {x:Nat} (hx:x<ends.length):bST m P ends T ch (ends.getD x 0)=ends.getD (T.getD x 0) 0:=by
 unfold bST;rw [QV he.nd hx];simp
theorem wz (ch:Nat->Bool) {h:Int} (hn:h∉ends):bST m P ends T ch h=if (h/4).toNat∈P then m.getD h.toNat 0 else aB (ch (h/4).toNat) h:=by
 unfold bST;rw [Uw hn]
theorem G4 (ch:Nat->Bool):Inv2 n (fun x=>m.getD x.toNat 0) (bST m P ends T ch):=by
 have hi:=qt hp.ok hp.inv hp.ne ch;have key: ∀x,ax n x->ax n (bST m P ends T ch x)/\bST m P ends T ch (bST m P ends T ch x)=x/\bST m P ends T ch x≠x:=by
  intro x hx;by_cases hm:x∈ends
  ·obtain ⟨k,hk,rfl⟩:=sU.1 hm;rw [DW hp he hT ch hk,DW hp he hT ch (hT.bP k hk),hT.inv k hk];exact ⟨(he.at (hT.bP k hk)).1,rfl,fun e=>hT.ne k hk (EI he.nd (hT.bP k hk) hk e)⟩
  ·rw [wz hp he hT ch hm];by_cases hP:(x/4).toNat∈P
   ·rw [if_pos hP];have h1:(m.getD x.toNat 0/4).toNat∈P:=by
     rcases Classical.em ((m.getD x.toNat 0/4).toNat∈P) with h|h
     ·exact h
     ·exact absurd ((he.mem x).2 ⟨hx,hP,h⟩) hm
    have wU:m.getD (m.getD x.toNat 0).toNat 0=x:=hi.mm x hx;have aw:m.getD x.toNat 0≠x:=hi.mf x hx;have hr:ax n (m.getD x.toNat 0):=hi.mr x hx;refine ⟨hr,?_,aw⟩;have h2:m.getD x.toNat 0∉ends:=fun h=>by
     have:=((he.mem _).1 h).2.2
     rw [wU] at this;exact this hP
    rw [wz hp he hT ch h2,if_pos h1,wU]
   ·rw [if_neg hP];have hr:ax n (aB (ch (x/4).toNat) x):=hi.jr x hx;have hd:=jD (ch (x/4).toNat) x;refine ⟨hr,?_,DG _ x⟩;have h2:aB (ch (x/4).toNat) x∉ends:=fun h=>by
     have:=((he.mem _).1 h).2.1
     rw [hd] at this;exact hP this
    rw [wz hp he hT ch h2,hd,if_neg hP];exact oA _ x
 exact ⟨hi.mr,fun x hx=>(key x hx).1,hi.mm,fun x hx=>(key x hx).2.1,hi.mf,fun x hx=>(key x hx).2.2⟩
variable (hc:c<n) (aV:c∉P)
include hc aV
theorem DV (ch:Nat->Bool):Dh n (ends.length+4) (fun x=>m.getD x.toNat 0) (bST m P ends T ch) (fk ends.length T (ch c)) (fun x=>(aU m ends c).getD x 0) (fun x=>(bu ends c).getD x 0):=by
 have eY: ∀x,x<ends.length+4->fk ends.length T (ch c) x<ends.length+4/\fk ends.length T (ch c) (fk ends.length T (ch c) x)=x/\fk ends.length T (ch c) x≠x:=by
  intro x hx;unfold fk;by_cases h:x<ends.length
  ·have h1:=hT.bP x h;rw [if_pos h,if_pos h1];exact ⟨by omega,hT.inv x h,hT.ne x h⟩
  ·have j:=Qj (ch c) (t:=x-ends.length) (by omega);rw [if_neg h,if_neg (by omega)];rw [Nat.add_sub_cancel_left];refine ⟨by omega,by omega,by omega⟩
 refine ⟨⟨fun x hx=>(eY x hx).1,fun x hx=>(eY x hx).2.1,fun x hx=>(eY x hx).2.2,fun x hx h=>?_,fun x hx h=>?_,fun x hx e=>?_⟩,G4 hp he hT ch,fun x y hx hy e=>EI (FU he hc aV) (by rw [qq];exact hx) (by rw [qq];exact hy) e,fun x hx=>(wo he hc aV hx).1,fun x hx h=>?_,fun x hx=>?_⟩
 ·obtain ⟨y,hy,e,_⟩:=Af hp he hc aV hx h;rw [e];omega
 ·obtain ⟨y,hy,e,e2⟩:=Af hp he hc aV hx h;rw [e,Int.toNat_natCast,DX hp he hc aV hy];unfold kh;rw [Jk hp he hc aV hx e2];rfl
 ·obtain ⟨y,hy,e1,e2⟩:=Af hp he hc aV hx (by omega);rw [e1] at e
  have:y=x:=by omega
  subst this;have h3:=(yA hp he hc aV hx e2).2.2;have hr:=(wo he hc aV hx).1;unfold ax at hr
  have:=hp.ne ((bu ends c).getD y 0).toNat (by omega)
  rw [Int.toNat_natCast] at h3;omega
 ·obtain ⟨y,hy,e1,e2⟩:=Af hp he hc aV hx h;rw [e1];exact (yA hp he hc aV hx e2).2.2.symm
 ·unfold fk;by_cases h:x<ends.length
  ·rw [if_pos h,MQ _ h,MQ _ (hT.bP x h),DW hp he hT ch h]
  ·obtain ⟨t,rfl⟩: ∃t,x=ends.length+t:=⟨x-ends.length,by omega⟩;have ht:t<4:=by omega
   have j:=Qj (ch c) ht;have e4:((4*(c:Int)+t)/4).toNat=c:=by omega
   rw [if_neg h,Nat.add_sub_cancel_left,Nu _ _ ht,Nu _ _ (by omega)];have hn:4*(c:Int)+t∉ends:=fun g=>by
    have:=((he.mem _).1 g).2.1
    rw [e4] at this;exact aV this
   rw [wz hp he hT ch hn,e4,if_neg aV,BF _ _ ht];omega
end
end Go.Proofs.YtphjphpmfflfpaaGreatDoor
