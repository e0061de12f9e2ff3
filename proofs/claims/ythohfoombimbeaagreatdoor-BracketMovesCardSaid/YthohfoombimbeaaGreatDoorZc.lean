/- Plain: polynomials that are known by their coefficients. -/
import Derived.Test.YthohfoombimbeaaGreatDoorZb
set_option linter.unusedSimpArgs false
set_option linter.unusedVariables false
namespace Go.Proofs.YthohfoombimbeaaGreatDoor
theorem Mf{v l:Int}(h0: -l<=v)(h1:v<=l):jO v l=true:=by unfold jO;simp;omega
def Jy(c e:Int):List (Int×Int):=if c=0 then [] else [(e,c)]
structure fe(p:List (Int×Int))(f:Int->Int):Prop where
 asc:dA p
 cf:∀e,bM p e=f e
theorem fe.nil:fe [] (fun _=>0):=⟨dA.nil,fun _=>rfl⟩
theorem fe.congr{p:List (Int×Int)}{f g:Int->Int}(h:fe p f)(e:∀x,f x=g x):fe p g:=⟨h.asc,fun x=>(h.cf x).trans (e x)⟩
theorem fe.mem{p:List (Int×Int)}{f:Int->Int}(h:fe p f){t:Int×Int}(ht:t∈p):t.2=f t.1/\f t.1≠0:=by
 have:=CQ h.asc ht
 rw[h.cf]at this;exact⟨this.symm,by rw[this];exact h.asc.nz t ht⟩
theorem fe.len{p:List (Int×Int)}{f:Int->Int}(h:fe p f)(hs:∀e,f e≠0-> -1000<=e/\e<=1000):p.length<=2001:=by
 have:=h.asc.len (a:= -1000) (b:=1000) fun t ht=>hs _ (h.mem ht).2
 omega
theorem fe.fits{p:List (Int×Int)}{f:Int->Int}(h:fe p f)(hb:∀e,-1125899906842624<=f e/\f e<=1125899906842624):wZ p:=fun t ht=>by
 rw[(h.mem ht).1];exact hb _
theorem SE{p:List (Int×Int)}(h:p.Pairwise fun a b=>a.1<b.1){t:Int×Int}(ht:t∈p):bM p t.1=t.2:=by
 induction p with
 |nil=>cases ht
 |cons u p ih=>
  have h1:=List.pairwise_cons.1 h;simp only[bM];rcases zzD.1 ht with rfl|ht
  ·rw[zM rfl,uz fun v hv=>by have:=h1.1 v hv;omega];omega
  ·rw[zL (by have:=h1.1 t ht;omega),ih h1.2 ht];omega
theorem Zt(c e:Int):fe (Jy c e) (fun x=>if x=e then c else 0):=by
 unfold Jy
 split
 ·rename_i h
  exact fe.nil.congr fun x=>by rw[h];split<;>rfl
 ·rename_i h
  refine⟨⟨by simp,fun t ht=>by simp only[zP]at ht;subst ht;exact h⟩,fun x=>?_⟩;simp only[bM,Int.add_zero];by_cases hx:x=e
  ·rw[zM hx.symm,zM hx]
  ·rw[zL (fun h=>hx h.symm),zL hx]
theorem SD(ch aI:Nat->Bool):∀n,(cr false aI n:Int)-cr false ch n+sm (fun c=>if ch c=aI c then 2 else 1) n<=2*n
 |0=>by simp[cr,sm]
 |n+1=>by
  have:=SD ch aI n
  simp only[cr,sm];cases ch n<;>cases aI n<;>simp<;>omega
section
variable{m:List Int}{n L:Nat}(hp:jo m n)
include hp
theorem MO(ch aI:Nat->Bool):(aK m n ch:Int)+aK m n aI+cr false aI n<=4*n+cr false ch n:=by
 have i1:=Ev hp.ok hp.inv hp.ne ch;have i2:=Ev hp.ok hp.inv hp.ne aI;have c1:=SS i1 (K5 hp.ok hp.inv hp.ne);have c2:=SS i2 (K5 hp.ok hp.inv hp.ne);have hs:=D4 (n:=4*n) (f:=fun x:Nat=>(if m.getD (x:Int).toNat 0=bV (ch ((x:Int)/4).toNat) x then (1:Int) else 0)+(if m.getD (x:Int).toNat 0=bV (aI ((x:Int)/4).toNat) x then 1 else 0)) (g:=fun x=>if ch (x/4)=aI (x/4) then 2 else 1) fun x _=>by
  rw[show ((x:Int)/4).toNat=x/4 by omega];by_cases h:ch (x/4)=aI (x/4)
  ·rw[zM h];split<;>split<;>omega
  ·rw[zL h]
   split
   ·rename_i h1
    rw[zL]
    ·omega
    ·rw[h1];intro h2;unfold bV at h2;rw[u6,ur]at h2;generalize decide ((x:Int)% 2=1)=b at h2;have g:((x:Int)% 4+5)% 4≠((x:Int)% 4+3)% 4:=by omega
     cases b<;>cases h3:ch (x/4)<;>cases h4:aI (x/4)<;>simp_all<;>omega
   ·split<;>omega
 rw[xM]at hs;have h4:sm (fun x=>if ch (x/4)=aI (x/4) then (2:Int) else 1) (4*n)=4*sm (fun c=>if ch c=aI c then (2:Int) else 1) n:=by
  rw[Es,<-Lp];refine oI fun c _=>?_;simp only[sm];rw[show (4*c+0)/4=c by omega,show (4*c+1)/4=c by omega,show (4*c+2)/4=c by omega,show (4*c+3)/4=c by omega];omega
 have hw:=SD ch aI n;unfold aK;omega
theorem MN(ch:Nat->Bool):aK m n ch<=2*n:=by
 have:=MO hp ch ch
 omega
theorem Zs(b:Nat):cN m n L b<=2*n+L:=by have:=MN hp (cV b);unfold cN;omega
theorem CZ{j:Nat}{e:Int}(h:dF m n L j e≠0): -(5*n:Int)-2*L+2*j<=e/\e<=5*n+2*L-2*j:=by
 obtain⟨k,_,hj,h1,h2⟩:=Mn h;have a1:=MN hp (cV k);have a2:=zk k n;unfold wB cN at*;omega
theorem y3g{j M:Nat}(hM:2*n+L<=M+j)(e:Int): -((2^(M+n):Nat):Int)<=dF m n L j e/\dF m n L j e<=((2^(M+n):Nat):Int):=by
 have:=y6t (K:=2^n) (c:=cN m n L) (w:=wB n) (j:=j) (M:=M) (fun k _=>by have:=MN hp (cV k);unfold cN;omega) e
 rw[Nat.pow_add,Int.natCast_mul,<-Int.neg_mul];exact this
theorem y67{j:Nat}{e e':Int}(h:dF m n L j e≠0)(h':dF m n L j e'≠0):e-e'<=8*n+4*L-4*j:=by
 obtain⟨k,_,hj,h1,h2⟩:=Mn h;obtain⟨k',_,gU,yT,AK⟩:=Mn h';have a:=MO hp (cV k) (cV k');have a':=MO hp (cV k') (cV k);rw[<-I5,<-I5]at a a';have b:=zk k n;have b':=zk k' n;unfold wB cN at*;omega
theorem y3h(j:Nat):fB (dF m n L j):=by
 refine⟨5*n+2*L+2*j,fun e he=>?_⟩
 have:=CZ hp he
 omega
theorem Yz(hn:n<=9){j:Nat}{p:List (Int×Int)}(ha:dA p)(hf:∀e,bM p e=dF m n L j e)(aJ:0<p.length):lE p-bf p+4<=64+8*(p.length:Int):=by
 have r:∀t∈p,dF m n L j t.1≠0:=fun t ht=>by rw[<-hf,CQ ha ht];exact ha.nz t ht
 have Av:=r _ (xO (p:=p) (i:=0) aJ);have s6:=r _ (xO (p:=p) (i:=p.length-1) (by omega));have hw:=y67 hp s6 Av;unfold lE bf;by_cases h1:p.length=1
 ·rw[h1];simp only[Nat.sub_self];omega
 ·by_cases hj:L<=j
  ·omega
  ·have:=T6 (L-j) p (dF m n L L) ha (y3h hp L) (fun e=>by rw[hf,<-RJ (L-j) (by omega),show L-(L-j)=j by omega]) (fun h=>by rw[h]at aJ;simp at aJ)
   omega
end
theorem y68{c t k3 k1:Nat}(ht:t<2)(h:k1<2^c)(i:Nat):cV (2^c*(2*k3+t)+k1) i=if i<c then cV k1 i else if i=c then t==1 else cV k3 (i-c-1):=by
 by_cases h1:i<c
 ·rw[zM h1,RG h1]
 ·rw[zL h1];obtain⟨j,rfl⟩:∃j,i=c+j:=⟨i-c,by omega⟩;rw[Ll h];cases j with
  |zero=>
   rw[zM (Nat.add_zero c)];unfold cV;rw[Nat.pow_zero,Nat.div_one,Nat.mul_add_mod,Nat.mod_eq_of_lt ht]
  |succ j=>
   rw[zL (by omega),show c+(j+1)-c-1=j by omega,Nat.add_comm j 1]
   have:=Ll (k1:=t) (k2:=k3) (i:=1) (c:=j) (by omega)
   rwa [Nat.pow_one]at this
theorem Zr(f:Nat->Int)(c r:Nat):sm f (2^(c+r+1))=sm (fun k3=>sm (fun k1=>f (2^c*(2*k3+0)+k1)) (2^c)) (2^r)+sm (fun k3=>sm (fun k1=>f (2^c*(2*k3+1)+k1)) (2^c)) (2^r):=by
 rw[show 2^(c+r+1)=2^c*(2*2^r) by rw[Nat.pow_succ,Nat.pow_add,Nat.mul_assoc,Nat.mul_comm (2^r)],Es,Es,<-xM];refine oI fun k3 _=>?_;simp only[sm];omega
section
variable{s m:List Int}{Lz:Int}{c:Nat}
end
namespace Hs
open Sp (cb ai bJ aS ae af bI bm Tr dG)
inductive Ci(al jn:Nat->Nat):Nat->Nat->Prop
 |refl (x:Nat):Ci al jn x x
 |mate {x y:Nat} (h:Ci al jn x y):Ci al jn x (al y)
 |join {x y:Nat} (h:Ci al jn x y):Ci al jn x (jn y)
section
variable{al jn:Nat->Nat}{N:Nat}
theorem Ci.trans{x y z:Nat}(h1:Ci al jn x y)(h2:Ci al jn y z):Ci al jn x z:=by
 induction h2 with
 |refl=>exact h1
 |mate _ ih=>exact .mate ih
 |join _ ih=>exact .join ih
theorem Ci.al1(x:Nat):Ci al jn x (al x):= .mate (.refl x)
theorem Ci.iD(x:Nat):Ci al jn x (jn x):= .join (.refl x)
structure KN(N:Nat)(al jn:Nat->Nat):Prop where
 al:bI N al
 jl:∀x,x<N->jn x<N
 jj:∀x,x<N->jn (jn x)=x
theorem Ci.lt(T:KN N al jn){x y:Nat}(h:Ci al jn x y)(hx:x<N):y<N:=by
 induction h with
 |refl=>exact hx
 |mate _ ih=>exact T.al.lt _ ih
 |join _ ih=>exact T.jl _ ih
theorem Ci.symm(T:KN N al jn){x y:Nat}(h:Ci al jn x y)(hx:x<N):Ci al jn y x:=by
 induction h with
 |refl=>exact .refl _
 | @mate y h ih=>
   have hy:=h.lt T hx
   have:=Ci.mate (jn:=jn) (.refl (al:=al) (al y))
   rw[T.al.inv y hy]at this;exact this.trans ih
 | @join y h ih=>
   have hy:=h.lt T hx
   have:=Ci.join (al:=al) (.refl (jn:=jn) (jn y))
   rw[T.jj y hy]at this;exact this.trans ih
theorem Ci.eqv(T:KN N al jn):dG N (Ci al jn):=⟨fun x _=> .refl x,fun _ _ hx _ h=>h.symm T hx,fun _ _ _ _ _ _ h k=>h.trans k⟩
end
theorem IV(b:Bool)(x:Nat):dC b (dC b x)=x:=by
 have h:=IE b (x:Int);rw[D8,D8]at h;exact Int.ofNat.inj h
def ak(ch:Nat->Bool)(x:Nat):Nat:=dC (ch (x/4)) x
theorem SB(ch:Nat->Bool)(x:Nat):((ak ch x:Nat):Int)=Dd (fun c=>tK (ch c)) x:=by
 rw[SP];show ((dC (ch (x/4)) x:Nat):Int)=bV (ch ((x:Int)/4).toNat) x;rw[show ((x:Int)/4).toNat=x/4 by omega,D8]
theorem kJ{m:List Int}{n:Nat}(hd:bm m n)(ch:Nat->Bool):KN (4*n) (ae m) (ak ch):=by
 refine⟨hd.aW,fun x hx=>?_,fun x hx=>?_⟩
 ·have:=A8 (ch (x/4)) x
  unfold ak;omega
 ·have h1:=A8 (ch (x/4)) x;unfold ak;rw[h1,IV]
theorem QU{m:List Int}{n:Nat}(hd:bm m n)(ch:Nat->Bool){x y:Nat}(hx:x<4*n):Ci (ae m) (ak ch) x y↔fj (fun x=>m.getD x.toNat 0) (Dd fun c=>tK (ch c)) x y:=by
 have T:=kJ hd ch;constructor
 ·intro h
  induction h with
  |refl=>exact .refl _
  | @mate y h ih=>
    have:=ih.mate
    rw[hd.cast (h.lt T hx)];simpa using this
  | @join y h ih=>
    have:=ih.join
    rwa [<-SB]at this
 ·have key:∀a b:Int,fj (fun x=>m.getD x.toNat 0) (Dd fun c=>tK (ch c)) a b->∀x:Nat,a=x->x<4*n->∃y:Nat,b=y/\Ci (ae m) (ak ch) x y:=by
   intro a b h
   induction h with
   |refl=>intro x e _;exact⟨x,e,.refl _⟩
   | @mate b h ih=>
     intro x e hx;obtain⟨y,e2,h2⟩:=ih x e hx;refine⟨ae m y,?_,h2.mate⟩;show m.getD b.toNat 0=_;rw[e2,zD,hd.cast (h2.lt T hx)]
   | @join b h ih=>
     intro x e hx;obtain⟨y,e2,h2⟩:=ih x e hx;exact⟨ak ch y,by rw[e2,SB],h2.join⟩
  intro h;obtain⟨z,e,hz⟩:=key _ _ h x rfl hx;rw[show y=z by omega];exact hz
theorem CF{m:List Int}{n:Nat}(hd:bm m n)(ch:Nat->Bool){l:List Nat}(h:Tr (4*n) (fun _=>True) (Ci (ae m) (ak ch)) l):aK m n ch=l.length:=by
 have hp:jo m n:=⟨hd.prd.ok,hd.prd.inv,hd.ne⟩;have hR:=QJ hp ch;have h2:Tr (4*n) (fun _=>True) (Ci (ae m) (ak ch)) ((List.range (ff m ch n).length).filter fun x=>(ff m ch n).getD x 0==(x:Int)):=by
  have hl:=hR.rep.len;refine⟨fun x hx=>?_,List.Nodup.sublist List.filter_sublist List.nodup_range,fun x hx y hy e=>?_,fun x hx _=>?_⟩
  ·simp only[List.mem_filter,zK]at hx;exact⟨by omega,trivial⟩
  ·simp only[List.mem_filter,zK,beq_iff_eq]at hx hy
   have:=(hR.iff x y (by omega) (by omega)).2 ((QU hd ch (by omega)).1 e)
   omega
  ·have r1:=hR.rep.fP x hx;have r2:=hR.rep.idem x hx;refine⟨((ff m ch n).getD x 0).toNat,?_,?_⟩
   ·simp only[List.mem_filter,zK,beq_iff_eq];omega
   ·rw[QU hd ch hx];exact(hR.iff x _ hx (by omega)).1 r2.symm
 have h3:=Tr.bd (Ci.eqv (kJ hd ch)) h h2;rw[h3];unfold aK roots;rw[List.countP_eq_length_filter]
theorem L8{m m':List Int}{n n':Nat}(hd:bm m n)(er:bm m' n')(ch aI:Nat->Bool)(f g:Nat->Nat)(J:Nat->Prop)(Ov:List Nat)
  (hf:∀y,y<4*n'->f y<4*n/\ ¬J (f y)/\Ci (ae m) (ak ch) (f y) (f (ae m' y))/\Ci (ae m) (ak ch) (f y) (f (ak aI y))/\Ci (ae m') (ak aI) (g (f y)) y)
  (hg:∀x,x<4*n->¬J x->g x<4*n'/\ ¬J (ae m x)/\ ¬J (ak ch x)/\Ci (ae m') (ak aI) (g x) (g (ae m x))/\Ci (ae m') (ak aI) (g x) (g (ak ch x))/\Ci (ae m) (ak ch) (f (g x)) x)
  (hi:Tr (4*n) J (Ci (ae m) (ak ch)) Ov):aK m n ch=aK m' n' aI+Ov.length:=by
 have T:=kJ hd ch;have T':=kJ er aI;obtain⟨l,hl⟩:=Tr.exists (Ci.eqv T') (fun _=>True);have yI:∀x y,x<4*n'->Ci (ae m') (ak aI) x y->Ci (ae m) (ak ch) (f x) (f y):=fun x y hx h=>by
  induction h with
  |refl=>exact .refl _
  | @mate y h ih=>exact ih.trans (hf y (h.lt T' hx)).2.2.1
  | @join y h ih=>exact ih.trans (hf y (h.lt T' hx)).2.2.2.1
 have wm:∀x y,x<4*n->¬J x->Ci (ae m) (ak ch) x y->¬J y/\Ci (ae m') (ak aI) (g x) (g y):=fun x y hx hj h=>by
  induction h with
  |refl=>exact⟨hj,.refl _⟩
  | @mate y h ih=>
    obtain⟨i1,i2⟩:=ih;obtain⟨_,a,_,b,_⟩:=hg y (h.lt T hx) i1;exact⟨a,i2.trans b⟩
  | @join y h ih=>
    obtain⟨i1,i2⟩:=ih;obtain⟨_,_,a,_,b,_⟩:=hg y (h.lt T hx) i1;exact⟨a,i2.trans b⟩
 have back:∀x y,x<4*n'->y<4*n'->Ci (ae m) (ak ch) (f x) (f y)->Ci (ae m') (ak aI) x y:=fun x y hx hy h=>by
  obtain⟨f1,f2,_,_,f5⟩:=hf x hx;have h2:=(wm _ _ f1 f2 h).2;have f6:=(hf y hy).2.2.2.2;have lx:g (f x)<4*n':=(hg _ f1 f2).1;exact((f5.symm T' lx).trans h2).trans f6
 have h1:Tr (4*n) (fun x=>¬J x) (Ci (ae m) (ak ch)) (l.map f):=by
  refine⟨fun x hx=>?_,?_,fun x hx y hy e=>?_,fun x hx hj=>?_⟩
  ·obtain⟨y,hy,rfl⟩:=zzE.1 hx
   have:=hf y (hl.mem y hy).1
   exact⟨this.1,this.2.1⟩
  ·refine Np (fun x hx y hy e=>?_) hl.nodup;exact hl.apart x hx y hy (back x y (hl.mem x hx).1 (hl.mem y hy).1 (e▸ .refl _))
  ·obtain⟨a,ha,rfl⟩:=zzE.1 hx;obtain⟨b,hb,rfl⟩:=zzE.1 hy;rw[hl.apart a ha b hb (back a b (hl.mem a ha).1 (hl.mem b hb).1 e)]
  ·obtain⟨g1,_,_,_,_,g6⟩:=hg x hx hj;obtain⟨y,hy,e⟩:=hl.all (g x) g1 trivial;refine⟨f y,zzE.2 ⟨y,hy,rfl⟩,?_⟩;have Pv:f (g x)<4*n:=(hf _ g1).1;exact(g6.symm T Pv).trans (yI _ _ g1 e)
 have h2:=Tr.append (N:=4*n) h1 hi (fun x y hx hy ux wy=>⟨fun e=>(wm x y hx ux e).1 wy,fun e=>(wm x y hx ux (e.symm T hy)).1 wy⟩) (fun x _ u=>u);have h3:Tr (4*n) (fun _=>True) (Ci (ae m) (ak ch)) (l.map f++Ov):=h2.aZ (fun x _=>⟨fun _=>trivial,fun _=>(Classical.em (J x)).symm⟩) (fun _ _ _ _ _ _=>Iff.rfl);rw[CF hd ch h3,CF er aI hl,zG,List.length_map]
open Sp (cb ai bJ aS ae af bI bm Tr dG bE)
structure wX(N:Nat)(al st:Nat->Nat)(I:Nat->Prop)(e:Nat->Nat):Prop where
 lt:∀x,x<N->e x<N
 out:∀x,¬I (e x)
 id:∀x,¬I x->e x=x
 ci:∀x,x<N->Ci al st x (e x)
 alI:∀x,x<N->¬I x->¬I (al x)
theorem R9{m m':List Int}{n:Nat}(hd:bm m n)(er:bm m' n){ch aI:Nat->Bool}{aj:Nat->Nat}{I I':Nat->Prop}{e e':Nat->Nat}
  (A:wX (4*n) (ae m) (ak ch) I e) (B:wX (4*n) (ae m') (ak aI) I' e') (tt:∀x,aj (aj x)=x) (tl:∀x,x<4*n->aj x<4*n)
  (tI:∀x,¬I x->¬I' (aj x)) (tI':∀x,¬I' x->¬I (aj x)) (cj:∀y,y<4*n->ae m' y=aj (ae m (aj y)))
  (cA:∀y,y<4*n->I' y->Ci (ae m) (ak ch) (aj (e' y)) (aj (e' (ae m' y)))) (jA:∀y,y<4*n->Ci (ae m) (ak ch) (aj (e' y)) (aj (e' (ak aI y))))
  (cB:∀y,y<4*n->I y->Ci (ae m') (ak aI) (aj (e y)) (aj (e (ae m y)))) (jB:∀y,y<4*n->Ci (ae m') (ak aI) (aj (e y)) (aj (e (ak ch y)))):
  aK m n ch=aK m' n aI:=by
 have T:=kJ hd ch;have T':=kJ er aI;have h:=L8 hd er ch aI (fun y=>aj (e' y)) (fun x=>aj (e x)) (fun _=>False) [] (fun y hy=>?_) (fun x hx _=>?_) ⟨by simp,.nil,by simp,fun x _ h=>h.elim⟩
 ·simpa using h
 ·refine⟨tl _ (B.lt y hy),fun h=>h,?_,jA y hy,?_⟩
  ·by_cases h:I' y
   ·exact cA y hy h
   ·have h2:=B.alI y hy h;show Ci _ _ (aj (e' y)) (aj (e' (ae m' y)));rw[B.id y h,B.id _ h2,cj y hy,tt];exact .al1 _
  ·show Ci _ _ (aj (e (aj (e' y)))) y;rw[A.id _ (tI' _ (B.out y)),tt];exact(B.ci y hy).symm T' hy
 ·refine⟨tl _ (A.lt x hx),fun h=>h,fun h=>h,?_,jB x hx,?_⟩
  ·by_cases h:I x
   ·exact cB x hx h
   ·have h2:=A.alI x hx h;show Ci _ _ (aj (e x)) (aj (e (ae m x)));have h3:=cj (aj x) (tl x hx);rw[tt]at h3;rw[A.id x h,A.id _ h2,<-h3];exact .al1 _
  ·show Ci _ _ (aj (e' (aj (e x)))) x;rw[B.id _ (tI _ (A.out x)),tt];exact(A.ci x hx).symm T hx
section
variable{N:Nat}{si al al' aj h g H G:Nat->Nat}
def OT(st:Nat->Nat)(h g H G:Nat->Nat)(k:Nat):Prop:=st (h k)=g k/\st (g k)=h k/\st (H k)=G k/\st (G k)=H k
def IT(st:Nat->Nat)(h g H G:Nat->Nat)(k:Nat):Prop:=st (h k)=G k/\st (G k)=h k/\st (H k)=g k/\st (g k)=H k
def cR(h g:Nat->Nat)(x:Nat):Prop:=(∃k,x=h k)\/ ∃k,x=g k
theorem ML(T:bE N si al aj h g H G)(j:Nat):bE N si al aj (fun k=>h (k+j)) (fun k=>g (k+j)) (fun k=>H (k+j)) (fun k=>G (k+j)):=by
 have e:∀k,k+1+j=k+j+1:=fun k=>by omega
 have e3:∀k,k+3+j=k+j+3:=fun k=>by omega
 refine⟨fun k=>T.lt _,fun k=>T.s1 _,fun k=>T.s2 _,fun k=>T.s3 _,fun k=>T.s4 _,fun k=>?_,fun k=>?_,fun k=>?_,fun k=>?_,fun k=>?_,fun k=>?_,fun x hx=>T.t0 x fun k=>?_,fun k=>?_,fun k i=>T.dis _ _⟩
 ·show al (h (k+j))=g (k+1+j);rw[e];exact T.a1 _
 ·show al (g (k+1+j))=h (k+j);rw[e];exact T.a2 _
 ·show aj (h (k+j))=G (k+1+j);rw[e];exact T.t1 _
 ·show aj (G (k+1+j))=h (k+j);rw[e];exact T.t2 _
 ·show aj (H (k+j))=g (k+1+j);rw[e];exact T.t3 _
 ·show aj (g (k+1+j))=H (k+j);rw[e];exact T.t4 _
 ·have p:∀a,h (a+3)=h a/\g (a+3)=g a/\H (a+3)=H a/\G (a+3)=G a:=T.fD;have q:∀b a,h (a+3*b)=h a/\g (a+3*b)=g a/\H (a+3*b)=H a/\G (a+3*b)=G a:=fun b=>by
   induction b with
   |zero=>intro a;exact⟨rfl,rfl,rfl,rfl⟩
   |succ b ih=>
    intro a;obtain⟨i1,i2,i3,i4⟩:=ih (a+3);obtain⟨p1,p2,p3,p4⟩:=p a;rw[show a+3*(b+1)=a+3+3*b by omega];exact⟨i1.trans p1,i2.trans p2,i3.trans p3,i4.trans p4⟩
  obtain⟨q1,q2,q3,q4⟩:=q j k
  have:=hx (k+2*j)
  simp only[show k+2*j+j=k+3*j by omega,q1,q2,q3,q4]at this;exact this
 ·show h (k+3+j)=_/\g (k+3+j)=_/\H (k+3+j)=_/\G (k+3+j)=_;rw[e3];exact T.fD _
theorem C0(T:bE N si al aj h g H G)(cj:∀y,y<N->al' y=aj (al (aj y))):bE N si al' aj H G h g:=by
 refine⟨fun k=>⟨(T.lt k).2.2.1,(T.lt k).2.2.2,(T.lt k).1,(T.lt k).2.1⟩,T.s3,T.s4,T.s1,T.s2,fun k=>?_,fun k=>?_,T.t3,T.t4,T.t1,T.t2,fun x hx=>T.t0 x fun k=>⟨(hx k).2.2.1,(hx k).2.2.2,(hx k).1,(hx k).2.1⟩,fun k=>⟨(T.fD k).2.2.1,(T.fD k).2.2.2,(T.fD k).1,(T.fD k).2.1⟩,fun k j=>?_⟩
 ·rw[cj _ (T.lt k).2.2.1,T.t3,T.a2,T.t1]
 ·rw[cj _ (T.lt (k+1)).2.2.2,T.t2,T.a1,T.t4]
 ·obtain⟨d1,d2,d3,d4,d5,d6⟩:=T.dis k j;obtain⟨f1,f2,f3,f4,f5,f6⟩:=T.dis j k;exact⟨d6,Ne.symm f2,Ne.symm f4,Ne.symm f3,Ne.symm f5,d1⟩
end
end Hs
namespace Sp
open Hs (cR)
section
variable{N:Nat}{si al al' aj h g H G:Nat->Nat}
theorem bE.k3(T:bE N si al aj h g H G)(k:Nat):(h k=h 0/\g k=g 0/\H k=H 0/\G k=G 0)\/(h k=h 1/\g k=g 1/\H k=H 1/\G k=G 1)\/(h k=h 2/\g k=g 2/\H k=H 2/\G k=G 2):=by
 induction k using Nat.strongRecOn with
 |_ k ih=>
  rcases (show k=0\/k=1\/k=2\/3<=k by omega) with rfl|rfl|rfl|hk
  ·exact .inl ⟨rfl,rfl,rfl,rfl⟩
  ·exact .inr (.inl ⟨rfl,rfl,rfl,rfl⟩)
  ·exact .inr (.inr ⟨rfl,rfl,rfl,rfl⟩)
  ·obtain⟨j,rfl⟩:∃j,k=j+3:=⟨k-3,by omega⟩;obtain⟨p1,p2,p3,p4⟩:=T.fD j;rw[p1,p2,p3,p4];exact ih j (by omega)
theorem bE.oY(T:bE N si al aj h g H G)(x:Nat):cR h g x↔x=h 0\/x=h 1\/x=h 2\/x=g 0\/x=g 1\/x=g 2:=by
 constructor
 ·rintro (⟨k,rfl⟩|⟨k,rfl⟩)
  ·rcases bE.k3 T k with ⟨e,_⟩|⟨e,_⟩|⟨e,_⟩<;>simp[e]
  ·rcases bE.k3 T k with ⟨_,e,_⟩|⟨_,e,_⟩|⟨_,e,_⟩<;>simp[e]
 ·rintro (rfl|rfl|rfl|rfl|rfl|rfl)
  ·exact .inl ⟨_,rfl⟩
  ·exact .inl ⟨_,rfl⟩
  ·exact .inl ⟨_,rfl⟩
  ·exact .inr ⟨_,rfl⟩
  ·exact .inr ⟨_,rfl⟩
  ·exact .inr ⟨_,rfl⟩
theorem bE.dJ(T:bE N si al aj h g H G)(k:Nat):¬cR h g (H k)/\ ¬cR h g (G k):=by
 refine⟨?_,?_⟩
 ·rintro (⟨j,e⟩|⟨j,e⟩)
  ·exact(T.dis j k).2.1 e.symm
  ·exact(T.dis j k).2.2.2.1 e.symm
 ·rintro (⟨j,e⟩|⟨j,e⟩)
  ·exact(T.dis j k).2.2.1 e.symm
  ·exact(T.dis j k).2.2.2.2.1 e.symm
theorem bE.gp(T:bE N si al aj h g H G)(k:Nat):cR h g (h k)/\cR h g (g k):=⟨.inl ⟨k,rfl⟩,.inr ⟨k,rfl⟩⟩
theorem bE.sT(T:bE N si al aj h g H G){x:Nat}(hx:cR h g x):cR h g (al x):=by
 rcases hx with ⟨k,rfl⟩|⟨k,rfl⟩
 ·rw[T.a1];exact(T.gp _).2
 ·rw[T.oF];exact(T.gp _).1
theorem bE.qv(T:bE N si al aj h g H G)(ha:bI N al){x:Nat}(h0:x<N)(hx:¬cR h g x):¬cR h g (al x):=fun hi=>hx (by
 have:=T.sT hi
 rwa [ha.inv x h0]at this)
theorem bE.oO(T:bE N si al aj h g H G){x:Nat}(hx:¬cR h g x):¬cR H G (aj x):=by
 rcases T.cases x with ⟨k,rfl⟩|⟨k,rfl⟩|⟨k,rfl⟩|⟨k,rfl⟩|hn
 ·exact zzA (T.gp k).1 hx
 ·exact zzA (T.gp k).2 hx
 ·rw[T.t3];rintro (⟨j,e⟩|⟨j,e⟩)
  ·exact(T.dis (k+1) j).2.2.2.1 e
  ·exact(T.dis (k+1) j).2.2.2.2.1 e
 ·rw[T.vk];rintro (⟨j,e⟩|⟨j,e⟩)
  ·exact(T.dis (k+2) j).2.1 e
  ·exact(T.dis (k+2) j).2.2.1 e
 ·rw[T.t0 x hn];rintro (⟨j,e⟩|⟨j,e⟩)
  ·exact(hn j).2.2.1 e
  ·exact(hn j).2.2.2 e
end
end Sp
namespace Hs
open Sp (cb ai bJ aS ae af bI bm Tr dG bE)
section
variable{N:Nat}{si al al' aj h g H G st rP:Nat->Nat}
theorem OT.flip{k:Nat}(h1:OT st h g H G k):OT st H G h g k:=⟨h1.2.2.1,h1.2.2.2,h1.1,h1.2.1⟩
theorem IT.flip{k:Nat}(h1:IT st h g H G k):IT st H G h g k:=⟨h1.2.2.1,h1.2.2.2,h1.1,h1.2.1⟩
theorem QT(T:bE N si al aj h g H G)(i0:IT st h g H G 0)(o1:OT st h g H G 1)(o2:OT st h g H G 2):
  Ci al st (H 0) (g 0)/\Ci al st (H 0) (h 2)/\Ci al st (H 0) (g 2)/\Ci al st (H 0) (h 1)/\Ci al st (H 0) (g 1)/\Ci al st (H 0) (h 0)/\Ci al st (H 0) (G 0):=by
 have c1:Ci al st (H 0) (g 0):=by have:=Ci.iD (al:=al) (jn:=st) (H 0);rwa [i0.2.2.1]at this
 have c2:Ci al st (H 0) (h 2):=by have:=c1.mate;rwa [T.oF]at this
 have c3:Ci al st (H 0) (g 2):=by have:=c2.join;rwa [o2.1]at this
 have c4:Ci al st (H 0) (h 1):=by have:=c3.mate;rwa [T.oF,show 2+2=1+3 by rfl,(T.fD 1).1]at this
 have c5:Ci al st (H 0) (g 1):=by have:=c4.join;rwa [o1.1]at this
 have c6:Ci al st (H 0) (h 0):=by have:=c5.mate;rwa [T.oF,show 1+2=0+3 by rfl,(T.fD 0).1]at this
 have c7:Ci al st (H 0) (G 0):=by have:=c6.join;rwa [i0.1]at this
 exact⟨c1,c2,c3,c4,c5,c6,c7⟩
end
section
open Classical
variable{m m':List Int}{n:Nat}{ch aI:Nat->Bool}{si aj h g H G:Nat->Nat}
theorem y69(hd:bm m n)(T:bE (4*n) si (ae m) aj h g H G)(a0:OT (ak ch) h g H G 0)(a1:OT (ak ch) h g H G 1)(a2:OT (ak ch) h g H G 2)
  (b0:IT (ak aI) h g H G 0) (b1:OT (ak aI) h g H G 1) (b2:OT (ak aI) h g H G 2) (off:∀x,(∀k,x≠h k/\x≠g k/\x≠H k/\x≠G k)->ak aI x=ak ch x) (yc:∀x,(∀k,x≠h k/\x≠g k/\x≠H k/\x≠G k)->∀k,ak ch x≠h k/\ak ch x≠g k/\ak ch x≠H k/\ak ch x≠G k):
  aK m n ch=aK m n aI+1:=by
 have P:=kJ hd ch;have P':=kJ hd aI;obtain⟨c1,c2,c3,c4,c5,c6,c7⟩:=QT T b0 b1 b2;have allI:∀k,OT (ak ch) h g H G k:=fun k=>by
  unfold OT;rcases T.k3 k with ⟨e1,e2,e3,e4⟩|⟨e1,e2,e3,e4⟩|⟨e1,e2,e3,e4⟩<;>rw[e1,e2,e3,e4]
  ·exact a0
  ·exact a1
  ·exact a2
 have hI:∀y,cR h g y->Ci (ae m) (ak aI) (H 0) y:=fun y hy=>by
  rcases (T.oY y).1 hy with rfl|rfl|rfl|rfl|rfl|rfl<;>assumption
 have GX:Ci (ae m) (ak ch) (H 0) (G 0):=by have:=Ci.iD (al:=ae m) (jn:=ak ch) (H 0);rwa [a0.2.2.1]at this
 have hl:=(T.lt 0).2.2.1;refine L8 hd hd ch aI (fun y=>if cR h g y then H 0 else y) (fun x=>x) (cR h g) [h 0] (fun y hy=>?_) (fun x hx hj=>?_) ⟨fun x hx=>?_,by simp,by simp,fun x hx hj=>?_⟩
 ·show (if cR h g y then H 0 else y)<4*n/\ ¬cR h g (if cR h g y then H 0 else y)/\Ci (ae m) (ak ch) (if cR h g y then H 0 else y) (if cR h g (ae m y) then H 0 else ae m y)/\Ci (ae m) (ak ch) (if cR h g y then H 0 else y) (if cR h g (ak aI y) then H 0 else ak aI y)/\Ci (ae m) (ak aI) (if cR h g y then H 0 else y) y;by_cases hi:cR h g y
  ·rw[zM hi,zM (T.sT hi)];refine⟨hl,(T.dJ 0).1,.refl _,?_,hI y hi⟩;rcases (T.oY y).1 hi with rfl|rfl|rfl|rfl|rfl|rfl
   ·rw[b0.1,zL (T.dJ 0).2];exact GX
   ·rw[b1.1,zM (T.gp 1).2];exact .refl _
   ·rw[b2.1,zM (T.gp 2).2];exact .refl _
   ·rw[b0.2.2.2,zL (T.dJ 0).1];exact .refl _
   ·rw[b1.2.1,zM (T.gp 1).1];exact .refl _
   ·rw[b2.2.1,zM (T.gp 2).1];exact .refl _
  ·rw[zL hi,zL (T.qv hd.aW hy hi)];refine⟨hy,hi,.al1 _,?_,.refl _⟩;have tj:∀k,OT (ak aI) h g H G k->(y=H k\/y=G k)->Ci (ae m) (ak ch) y (if cR h g (ak aI y) then H 0 else ak aI y):=fun k ob e=>by
    have oa:=allI k;rcases e with rfl|rfl
    ·rw[ob.2.2.1,zL (T.dJ k).2,<-oa.2.2.1];exact .iD _
    ·rw[ob.2.2.2,zL (T.dJ k).1,<-oa.2.2.2];exact .iD _
   rcases T.cases y with ⟨k,rfl⟩|⟨k,rfl⟩|⟨k,rfl⟩|⟨k,rfl⟩|hn
   ·exact zzA (T.gp k).1 hi
   ·exact zzA (T.gp k).2 hi
   ·rcases T.k3 k with ⟨_,_,e,_⟩|⟨_,_,e,_⟩|⟨_,_,e,_⟩<;>rw[e]at tj⊢
    ·rw[b0.2.2.1,zM (T.gp 0).2];exact .refl _
    ·exact tj 1 b1 (.inl rfl)
    ·exact tj 2 b2 (.inl rfl)
   ·rcases T.k3 k with ⟨_,_,_,e⟩|⟨_,_,_,e⟩|⟨_,_,_,e⟩<;>rw[e]at tj⊢
    ·rw[b0.2.1,zM (T.gp 0).1];exact GX.symm P hl
    ·exact tj 1 b1 (.inr rfl)
    ·exact tj 2 b2 (.inr rfl)
   ·have:¬cR h g (ak aI y):=by
     rw[off y hn];rintro (⟨k,e⟩|⟨k,e⟩)
     ·exact(yc y hn k).1 e
     ·exact(yc y hn k).2.1 e
    rw[zL this,off y hn];exact .iD _
 ·show x<4*n/\ ¬cR h g (ae m x)/\ ¬cR h g (ak ch x)/\Ci (ae m) (ak aI) x (ae m x)/\Ci (ae m) (ak aI) x (ak ch x)/\Ci (ae m) (ak ch) (if cR h g x then H 0 else x) x;rw[zL hj];refine⟨hx,T.qv hd.aW hx hj,?_,.al1 _,?_,.refl _⟩
  ·rcases T.cases x with ⟨k,rfl⟩|⟨k,rfl⟩|⟨k,rfl⟩|⟨k,rfl⟩|hn
   ·exact zzA (T.gp k).1 hj
   ·exact zzA (T.gp k).2 hj
   ·rw[(allI k).2.2.1];exact(T.dJ k).2
   ·rw[(allI k).2.2.2];exact(T.dJ k).1
   ·rintro (⟨k,e⟩|⟨k,e⟩)
    ·exact(yc x hn k).1 e
    ·exact(yc x hn k).2.1 e
  ·rcases T.cases x with ⟨k,rfl⟩|⟨k,rfl⟩|⟨k,rfl⟩|⟨k,rfl⟩|hn
   ·exact zzA (T.gp k).1 hj
   ·exact zzA (T.gp k).2 hj
   ·rw[(allI k).2.2.1];rcases T.k3 k with ⟨_,_,e,f⟩|⟨_,_,e,f⟩|⟨_,_,e,f⟩<;>rw[e,f]
    ·exact c7
    ·rw[<-b1.2.2.1];exact .iD _
    ·rw[<-b2.2.2.1];exact .iD _
   ·rw[(allI k).2.2.2];rcases T.k3 k with ⟨_,_,e,f⟩|⟨_,_,e,f⟩|⟨_,_,e,f⟩<;>rw[e,f]
    ·exact c7.symm P' hl
    ·rw[<-b1.2.2.2];exact .iD _
    ·rw[<-b2.2.2.2];exact .iD _
   ·rw[<-off x hn];exact .iD _
 ·rw[zP]at hx;subst hx;exact⟨(T.lt 0).1,(T.gp 0).1⟩
 ·refine⟨h 0,by simp,?_⟩;have l0:=(T.lt 0).1;have c1:Ci (ae m) (ak ch) (h 0) (g 0):=by have:=Ci.iD (al:=ae m) (jn:=ak ch) (h 0);rwa [a0.1]at this
  have c2:Ci (ae m) (ak ch) (h 0) (h 2):=by have:=c1.mate;rwa [T.oF]at this
  have c3:Ci (ae m) (ak ch) (h 0) (g 2):=by have:=c2.join;rwa [a2.1]at this
  have c4:Ci (ae m) (ak ch) (h 0) (h 1):=by have:=c3.mate;rwa [T.oF,show 2+2=1+3 by rfl,(T.fD 1).1]at this
  have c5:Ci (ae m) (ak ch) (h 0) (g 1):=by have:=c4.join;rwa [a1.1]at this
  rcases (T.oY x).1 hj with rfl|rfl|rfl|rfl|rfl|rfl<;>first|exact Ci.symm P ‹_› l0|exact .refl _|assumption
end
section
variable{N:Nat}{si al al' aj h g H G st rP:Nat->Nat}
def tA(st rP:Nat->Nat)(h g H G:Nat->Nat):Prop:=∀x,(∀k,x≠h k/\x≠g k/\x≠H k/\x≠G k)->rP x=st x/\ ∀k,st x≠h k/\st x≠g k/\st x≠H k/\st x≠G k
theorem tA.flip(o:tA st rP h g H G):tA rP st H G h g:=fun x hx=>by
 obtain⟨a,b⟩:=o x fun k=>⟨(hx k).2.2.1,(hx k).2.2.2,(hx k).1,(hx k).2.1⟩;exact⟨a.symm,fun k=>by rw[a];exact⟨(b k).2.2.1,(b k).2.2.2,(b k).1,(b k).2.1⟩⟩
theorem VJ(T:bE N si al aj h g H G){P:Nat->Nat->Nat->Nat->Prop}(p0:P (h 0) (g 0) (H 0) (G 0))(p1:P (h 1) (g 1) (H 1) (G 1))(p2:P (h 2) (g 2) (H 2) (G 2))(k:Nat):P (h k) (g k) (H k) (G k):=by
 rcases T.k3 k with ⟨e1,e2,e3,e4⟩|⟨e1,e2,e3,e4⟩|⟨e1,e2,e3,e4⟩<;>rw[e1,e2,e3,e4]<;>assumption
theorem allI(T:bE N si al aj h g H G)(b0:IT st h g H G 0)(b1:IT st h g H G 1)(b2:IT st h g H G 2)(k:Nat):IT st h g H G k:=
 VJ T (P:=fun h g H G=>st h=G/\st G=h/\st H=g/\st g=H) b0 b1 b2 k
theorem Me(T:bE N si al aj h g H G)(o:tA st rP h g H G){x:Nat}(hn:∀k,x≠h k/\x≠g k/\x≠H k/\x≠G k):¬cR h g x/\ ¬cR h g (st x)/\ ¬cR H G x/\ ¬cR H G (st x)/\aj x=x/\aj (st x)=st x/\rP x=st x:=by
 obtain⟨a,b⟩:=o x hn;refine⟨?_,?_,?_,?_,T.t0 x hn,T.t0 _ b,a⟩
 ·rintro (⟨k,e⟩|⟨k,e⟩)
  ·exact(hn k).1 e
  ·exact(hn k).2.1 e
 ·rintro (⟨k,e⟩|⟨k,e⟩)
  ·exact(b k).1 e
  ·exact(b k).2.1 e
 ·rintro (⟨k,e⟩|⟨k,e⟩)
  ·exact(hn k).2.2.1 e
  ·exact(hn k).2.2.2 e
 ·rintro (⟨k,e⟩|⟨k,e⟩)
  ·exact(b k).2.2.1 e
  ·exact(b k).2.2.2 e
end
section
open Classical
variable{m m':List Int}{n:Nat}{ch aI:Nat->Bool}{si aj h g H G:Nat->Nat}
theorem QR(hd:bm m n)(er:bm m' n)(T:bE (4*n) si (ae m) aj h g H G)(cj:∀y,y<4*n->ae m' y=aj (ae m (aj y)))(a0:IT (ak ch) h g H G 0)(a1:OT (ak ch) h g H G 1)(a2:OT (ak ch) h g H G 2)
  (b0:IT (ak aI) h g H G 0) (b1:IT (ak aI) h g H G 1) (b2:IT (ak aI) h g H G 2) (off:tA (ak ch) (ak aI) h g H G):
  aK m n ch=aK m' n aI:=by
 have P:=kJ hd ch;have P':=kJ er aI;have T':=C0 T cj;obtain⟨c1,c2,c3,c4,c5,c6,c7⟩:=QT T a0 a1 a2;have b:=allI T b0 b1 b2;have hI:∀y,cR h g y->Ci (ae m) (ak ch) y (H 0):=fun y hy=>by
  rcases (T.oY y).1 hy with rfl|rfl|rfl|rfl|rfl|rfl<;>exact Ci.symm P ‹_› (T.lt 0).2.2.1
 have A:wX (4*n) (ae m) (ak ch) (cR h g) (fun x=>if cR h g x then H 0 else x):=by
  refine⟨fun x hx=>?_,fun x=>?_,fun x hi=>zL hi,fun x hx=>?_,fun x hx hi=>T.qv hd.aW hx hi⟩
  ·show (if cR h g x then H 0 else x)<_
   split
   ·exact(T.lt 0).2.2.1
   ·exact hx
  ·show¬cR h g (if cR h g x then H 0 else x)
   split
   ·exact(T.dJ 0).1
   ·assumption
  ·show Ci _ _ x (if cR h g x then H 0 else x)
   split
   ·exact hI x ‹_›
   ·exact .refl _
 have VM:∀x,cR H G x->¬cR H G (ak aI x):=fun x hx=>by
  rcases hx with ⟨k,rfl⟩|⟨k,rfl⟩
  ·rw[(b k).2.2.1];exact(T'.dJ k).2
  ·rw[(b k).2.1];exact(T'.dJ k).1
 have B:wX (4*n) (ae m') (ak aI) (cR H G) (fun x=>if cR H G x then ak aI x else x):=by
  refine⟨fun x hx=>?_,fun x=>?_,fun x hi=>zL hi,fun x hx=>?_,fun x hx hi=>T'.qv er.aW hx hi⟩
  ·show (if cR H G x then ak aI x else x)<_
   split
   ·exact P'.jl x hx
   ·exact hx
  ·show¬cR H G (if cR H G x then ak aI x else x)
   split
   ·exact VM x ‹_›
   ·assumption
  ·show Ci _ _ x (if cR H G x then ak aI x else x)
   split
   ·exact .iD _
   ·exact .refl _
 have GX:∀k,Ci (ae m) (ak ch) (H k) (G k):=fun k=>by
  refine VJ T (P:=fun h g H G=>Ci (ae m) (ak ch) H G) c7 ?_ ?_ k
  ·rw[<-a1.2.2.1];exact .iD _
  ·rw[<-a2.2.2.1];exact .iD _
 have Gw:∀k,Ci (ae m') (ak aI) (g k) (h (k+1)):=fun k=>by
  have x1:=Ci.iD (al:=ae m') (jn:=ak aI) (g k);rw[(b k).2.2.2]at x1;have x2:=x1.mate;rw[T'.a1]at x2;have x3:=x2.join;rw[(b (k+1)).2.1]at x3;exact x3
 refine R9 hd er A B T.tt (fun x hx=>T.iV hx) (fun x hx=>T.oO hx) (fun x hx=>T'.oO hx) cj (fun y hy hi=>?_) (fun y hy=>?_) (fun y hy hi=>?_) (fun y hy=>?_)
 ·show Ci _ _ (aj (if cR H G y then ak aI y else y)) (aj (if cR H G (ae m' y) then ak aI (ae m' y) else ae m' y));rw[zM hi,zM (T'.sT hi)];rcases hi with ⟨k,rfl⟩|⟨k,rfl⟩
  ·rw[(b k).2.2.1,T'.a1,(b (k+1)).2.1,T.vj,T.t1];exact GX (k+2)
  ·rw[(b k).2.1,T'.oF,(b (k+2)).2.2.1,T.t1,T.vj,show k+2+2=k+1+3 by omega,(T.fD (k+1)).2.2.1];exact(GX (k+1)).symm P (T.lt _).2.2.1
 ·show Ci _ _ (aj (if cR H G y then ak aI y else y)) (aj (if cR H G (ak aI y) then ak aI (ak aI y) else ak aI y));by_cases hi:cR H G y
  ·rw[zM hi,zL (VM y hi)];exact .refl _
  rw[zL hi];by_cases hi2:cR H G (ak aI y)
  ·rw[zM hi2,P'.jj y hy];exact .refl _
  rw[zL hi2];rcases T.cases y with ⟨k,rfl⟩|⟨k,rfl⟩|⟨k,rfl⟩|⟨k,rfl⟩|hn
  ·exact zzA (by rw[(b k).1];exact(T'.gp k).2) hi2
  ·exact zzA (by rw[(b k).2.2.2];exact(T'.gp k).1) hi2
  ·exact zzA (T'.gp k).1 hi
  ·exact zzA (T'.gp k).2 hi
  ·obtain⟨_,_,_,_,e1,e2,e3⟩:=Me T off hn;rw[e3,e1,e2];exact .iD _
 ·show Ci _ _ (aj (if cR h g y then H 0 else y)) (aj (if cR h g (ae m y) then H 0 else ae m y));rw[zM hi,zM (T.sT hi)];exact .refl _
 ·show Ci _ _ (aj (if cR h g y then H 0 else y)) (aj (if cR h g (ak ch y) then H 0 else ak ch y));have h0:Ci (ae m') (ak aI) (aj (H 0)) (aj (G 0)):=by
   rw[T.t3,T.vk];exact Gw 1
  have l0:aj (H 0)<4*n:=T.iV (T.lt 0).2.2.1;by_cases hi:cR h g y
  ·rw[zM hi];rcases (T.oY y).1 hi with rfl|rfl|rfl|rfl|rfl|rfl
   ·rw[a0.1,zL (T.dJ 0).2];exact h0
   ·rw[a1.1,zM (T.gp 1).2];exact .refl _
   ·rw[a2.1,zM (T.gp 2).2];exact .refl _
   ·rw[a0.2.2.2,zL (T.dJ 0).1];exact .refl _
   ·rw[a1.2.1,zM (T.gp 1).1];exact .refl _
   ·rw[a2.2.1,zM (T.gp 2).1];exact .refl _
  rw[zL hi];have oo:∀k,OT (ak ch) h g H G k->Ci (ae m') (ak aI) (aj (H k)) (aj (if cR h g (ak ch (H k)) then H 0 else ak ch (H k)))/\Ci (ae m') (ak aI) (aj (G k)) (aj (if cR h g (ak ch (G k)) then H 0 else ak ch (G k))):=fun k o=>by
   have hk:Ci (ae m') (ak aI) (aj (H k)) (aj (G k)):=by rw[T.t3,T.vk];exact Gw (k+1)
   rw[o.2.2.1,o.2.2.2,zL (T.dJ k).2,zL (T.dJ k).1];exact⟨hk,hk.symm P' (T.iV (T.lt k).2.2.1)⟩
  rcases T.cases y with ⟨k,rfl⟩|⟨k,rfl⟩|⟨k,rfl⟩|⟨k,rfl⟩|hn
  ·exact zzA (T.gp k).1 hi
  ·exact zzA (T.gp k).2 hi
  ·rcases T.k3 k with ⟨_,_,e,_⟩|⟨_,_,e,_⟩|⟨_,_,e,_⟩<;>rw[e]
   ·rw[a0.2.2.1,zM (T.gp 0).2];exact .refl _
   ·exact(oo 1 a1).1
   ·exact(oo 2 a2).1
  ·rcases T.k3 k with ⟨_,_,_,e⟩|⟨_,_,_,e⟩|⟨_,_,_,e⟩<;>rw[e]
   ·rw[a0.2.1,zM (T.gp 0).1];exact h0.symm P' l0
   ·exact(oo 1 a1).2
   ·exact(oo 2 a2).2
  ·obtain⟨_,f1,_,_,e1,e2,e3⟩:=Me T off hn;rw[zL f1,e1,e2,<-e3];exact .iD _
noncomputable def eK (h g st al:Nat->Nat) (x:Nat):Nat:=if cR h g x then (if cR h g (st x) then st (al x) else st x) else x
theorem Hn(T:bE (4*n) si (ae m) aj h g H G)(a0:OT (ak ch) h g H G 0)(a1:IT (ak ch) h g H G 1)(a2:IT (ak ch) h g H G 2):
  (eK h g (ak ch) (ae m) (h 0)=H 1/\eK h g (ak ch) (ae m) (g 0)=G 2/\eK h g (ak ch) (ae m) (h 1)=G 1/\eK h g (ak ch) (ae m) (g 1)=H 1/\eK h g (ak ch) (ae m) (h 2)=G 2/\eK h g (ak ch) (ae m) (g 2)=H 2)/\ ∀x,¬cR h g x->eK h g (ak ch) (ae m) x=x:=by
 unfold eK;refine⟨⟨?_,?_,?_,?_,?_,?_⟩,fun x hx=>zL hx⟩
 ·rw[zM (T.gp 0).1,a0.1,zM (T.gp 0).2,T.a1,a1.2.2.2]
 ·rw[zM (T.gp 0).2,a0.2.1,zM (T.gp 0).1,T.oF,a2.1]
 ·rw[zM (T.gp 1).1,a1.1,zL (T.dJ 1).2]
 ·rw[zM (T.gp 1).2,a1.2.2.2,zL (T.dJ 1).1]
 ·rw[zM (T.gp 2).1,a2.1,zL (T.dJ 2).2]
 ·rw[zM (T.gp 2).2,a2.2.2.2,zL (T.dJ 2).1]
theorem R8(hd:bm m n)(T:bE (4*n) si (ae m) aj h g H G)(a0:OT (ak ch) h g H G 0)(a1:IT (ak ch) h g H G 1)(a2:IT (ak ch) h g H G 2):wX (4*n) (ae m) (ak ch) (cR h g) (eK h g (ak ch) (ae m)):=by
 have P:=kJ hd ch;obtain⟨⟨v1,v2,v3,v4,v5,v6⟩,v7⟩:=Hn T a0 a1 a2;have Oi:∀x,¬cR h g (eK h g (ak ch) (ae m) x):=fun x=>by
  by_cases hi:cR h g x
  ·rcases (T.oY x).1 hi with rfl|rfl|rfl|rfl|rfl|rfl
   ·rw[v1];exact(T.dJ _).1
   ·rw[v3];exact(T.dJ _).2
   ·rw[v5];exact(T.dJ _).2
   ·rw[v2];exact(T.dJ _).2
   ·rw[v4];exact(T.dJ _).1
   ·rw[v6];exact(T.dJ _).1
  ·rw[v7 x hi];exact hi
 refine⟨fun x hx=>?_,Oi,v7,fun x hx=>?_,fun x hx hi=>T.qv hd.aW hx hi⟩
 ·unfold eK
  split
  ·split
   ·exact P.jl _ (P.al.lt _ hx)
   ·exact P.jl _ hx
  ·exact hx
 ·unfold eK
  split
  ·split
   ·exact(Ci.al1 x).join
   ·exact .iD _
  ·exact .refl _
theorem R7(hd:bm m n)(er:bm m' n)(T:bE (4*n) si (ae m) aj h g H G)(cj:∀y,y<4*n->ae m' y=aj (ae m (aj y)))(a0:OT (ak ch) h g H G 0)(a1:IT (ak ch) h g H G 1)(a2:IT (ak ch) h g H G 2)
  (b0:OT (ak aI) h g H G 0) (b1:IT (ak aI) h g H G 1) (b2:IT (ak aI) h g H G 2) (off:tA (ak ch) (ak aI) h g H G):
  (∀y,y<4*n->cR h g y->Ci (ae m') (ak aI) (aj (eK h g (ak ch) (ae m) y)) (aj (eK h g (ak ch) (ae m) (ae m y))))/\ ∀y,y<4*n->Ci (ae m') (ak aI) (aj (eK h g (ak ch) (ae m) y)) (aj (eK h g (ak ch) (ae m) (ak ch y))):=by
 have P':=kJ er aI;have T':=C0 T cj;obtain⟨⟨v1,v2,v3,v4,v5,v6⟩,v7⟩:=Hn T a0 a1 a2;have lt:=fun k=>T.lt k;have s0:Ci (ae m') (ak aI) (h 0) (g 0):=by rw[<-b0.1];exact .iD _
 have s1:Ci (ae m') (ak aI) (g 1) (h 2):=by
  have x1:=Ci.iD (al:=ae m') (jn:=ak aI) (g 1);rw[b1.2.2.2]at x1;have x2:=x1.mate;rw[T'.a1]at x2;have x3:=x2.join;rw[b2.2.1]at x3;exact x3
 have s2:Ci (ae m') (ak aI) (g 2) (h 1):=by
  have x1:=Ci.iD (al:=ae m') (jn:=ak aI) (g 2);rw[b2.2.2.2]at x1;have x2:=x1.mate;rw[T'.a1,show 2+1=0+3 by rfl,(T.fD 0).2.2.2]at x2;have x3:=x2.join;rw[b0.2.2.2]at x3;have x4:=x3.mate;rw[T'.a1]at x4;have x5:=x4.join;rw[b1.2.1]at x5;exact x5
 have Vo:aj (H 1)=g 2:=T.t3 1;have Vn:aj (G 2)=h 1:=T.t2 1;have Vp:aj (G 1)=h 0:=T.t2 0;have Vm:aj (H 2)=g 0:=by rw[T.t3,show 2+1=0+3 by rfl,(T.fD 0).2.1]
 have Vq:aj (H 0)=g 1:=T.t3 0;have Vr:aj (G 0)=h 2:=by rw[T.vk]
 have m0:ae m (h 0)=g 1:=T.a1 0;have m1:ae m (h 1)=g 2:=T.a1 1;have m2:ae m (h 2)=g 0:=by rw[T.a1,show 2+1=0+3 by rfl,(T.fD 0).2.1]
 have w0:ae m (g 0)=h 2:=by rw[T.oF]
 have w1:ae m (g 1)=h 0:=T.a2 0;have w2:ae m (g 2)=h 1:=T.a2 1;have u:∀k,eK h g (ak ch) (ae m) (H k)=H k/\eK h g (ak ch) (ae m) (G k)=G k:=fun k=>⟨v7 _ (T.dJ k).1,v7 _ (T.dJ k).2⟩;refine⟨fun y hy hi=>?_,fun y hy=>?_⟩
 ·rcases (T.oY y).1 hi with rfl|rfl|rfl|rfl|rfl|rfl
  ·rw[m0,v1,v4];exact .refl _
  ·rw[m1,v3,v6,Vp,Vm];exact s0
  ·rw[m2,v5,v2];exact .refl _
  ·rw[w0,v2,v5];exact .refl _
  ·rw[w1,v4,v1];exact .refl _
  ·rw[w2,v6,v3,Vp,Vm];exact s0.symm P' (lt 0).1
 ·by_cases hi:cR h g y
  ·rcases (T.oY y).1 hi with rfl|rfl|rfl|rfl|rfl|rfl
   ·rw[a0.1,v1,v2,Vo,Vn];exact s2
   ·rw[a1.1,v3,(u 1).2];exact .refl _
   ·rw[a2.1,v5,(u 2).2];exact .refl _
   ·rw[a0.2.1,v1,v2,Vo,Vn];exact s2.symm P' (lt 2).2.1
   ·rw[a1.2.2.2,v4,(u 1).1];exact .refl _
   ·rw[a2.2.2.2,v6,(u 2).1];exact .refl _
  rcases T.cases y with ⟨k,rfl⟩|⟨k,rfl⟩|⟨k,rfl⟩|⟨k,rfl⟩|hn
  ·exact zzA (T.gp k).1 hi
  ·exact zzA (T.gp k).2 hi
  ·rcases T.k3 k with ⟨_,_,e,_⟩|⟨_,_,e,_⟩|⟨_,_,e,_⟩<;>rw[e]
   ·rw[a0.2.2.1,(u 0).1,(u 0).2,Vq,Vr];exact s1
   ·rw[a1.2.2.1,(u 1).1,v4];exact .refl _
   ·rw[a2.2.2.1,(u 2).1,v6];exact .refl _
  ·rcases T.k3 k with ⟨_,_,_,e⟩|⟨_,_,_,e⟩|⟨_,_,_,e⟩<;>rw[e]
   ·rw[a0.2.2.2,(u 0).1,(u 0).2,Vq,Vr];exact s1.symm P' (lt 1).2.1
   ·rw[a1.2.1,(u 1).2,v3];exact .refl _
   ·rw[a2.2.1,(u 2).2,v5];exact .refl _
  ·obtain⟨f0,f1,_,_,e1,e2,e3⟩:=Me T off hn;rw[v7 _ f0,v7 _ f1,e1,e2,<-e3];exact .iD _
theorem Lf(hd:bm m n)(er:bm m' n)(T:bE (4*n) si (ae m) aj h g H G)(cj:∀y,y<4*n->ae m' y=aj (ae m (aj y)))(a0:OT (ak ch) h g H G 0)(a1:IT (ak ch) h g H G 1)(a2:IT (ak ch) h g H G 2)
  (b0:OT (ak aI) h g H G 0) (b1:IT (ak aI) h g H G 1) (b2:IT (ak aI) h g H G 2) (off:tA (ak ch) (ak aI) h g H G):aK m n ch=aK m' n aI:=by
 have T':=C0 T cj;have Qk:∀y,y<4*n->ae m y=aj (ae m' (aj y)):=fun y hy=>by rw[cj _ (T.iV hy),T.tt,T.tt]
 obtain⟨x1,x2⟩:=R7 hd er T cj a0 a1 a2 b0 b1 b2 off;obtain⟨y1,y2⟩:=R7 er hd T' Qk b0.flip b1.flip b2.flip a0.flip a1.flip a2.flip off.flip;exact R9 hd er (R8 hd T a0 a1 a2) (R8 er T' b0.flip b1.flip b2.flip) T.tt (fun x hx=>T.iV hx) (fun x hx=>T.oO hx) (fun x hx=>T'.oO hx) cj y1 y2 x1 x2
end
end Hs
def sB(c:Nat)(b:Bool)(ch:Nat->Bool)(i:Nat):Bool:=if i=c then b else ch i
theorem zh{c d:Nat}(h:c≠d)(a b:Bool)(ch:Nat->Bool):sB c a (sB d b ch)=sB d b (sB c a ch):=funext fun i=>by
 unfold sB;by_cases h1:i=c
 ·rw[zM h1,zL (by omega),zM h1]
 ·rw[zL h1];by_cases h2:i=d
  ·rw[zM h2,zM h2]
  ·rw[zL h2,zL h2,zL h1]
theorem R6(k i:Nat):cV k i=k.testBit i:=by
 unfold cV;rw[Nat.testBit_eq_decide_div_mod_eq];rfl
theorem y7a(k c i:Nat):cV (k^^^2^c) i=if i=c then !cV k i else cV k i:=by
 rw[R6,R6,Nat.testBit_xor,Nat.testBit_two_pow];by_cases h:i=c
 ·subst h;simp
 ·rw[zL h,decide_eq_false (fun e=>h e.symm)];simp
theorem CL(F:(Nat->Bool)->Int){c n:Nat}(hc:c<n):2*sm (fun k=>F (cV k)) (2^n)=sm (fun k=>(fun ch=>F (sB c false ch)+F (sB c true ch)) (cV k)) (2^n):=by
 have aC:2^c<2^n:=Nat.pow_lt_pow_right (by omega) hc;have h1:sm (fun k=>F (cV (k^^^2^c))) (2^n)=sm (fun k=>F (cV k)) (2^n):=IB (fun k=>F (cV k)) (fun k=>k^^^2^c) (fun x hx=>Nat.xor_lt_two_pow hx aC) (fun x y _ _ e=>by
  have:=congrArg (· ^^^2^c) e
  simpa [Nat.xor_assoc] using this)
 have h2:sm (fun k=>(fun ch=>F (sB c false ch)+F (sB c true ch)) (cV k)) (2^n)=sm (fun k=>F (cV k)+F (cV (k^^^2^c))) (2^n):=oI fun k _=>by
  show F (sB c false (cV k))+F (sB c true (cV k))=_;have e1:sB c (cV k c) (cV k)=cV k:=funext fun i=>by unfold sB;split<;>simp_all
  have e2:sB c (!cV k c) (cV k)=cV (k^^^2^c):=funext fun i=>by
   rw[y7a];unfold sB;split<;>simp_all
  cases hb:cV k c
  ·rw[hb]at e1 e2;rw[e1,show true= !false from rfl,e2]
  ·rw[hb]at e1 e2;rw[e1,show false= !true from rfl,e2,Int.add_comm]
 rw[h2,xM,h1];omega
def Fc(F:(Nat->Bool)->Int)(c0 c1 c2:Nat)(ch:Nat->Bool):Int:=F (sB c0 false (sB c1 false (sB c2 false ch)))+F (sB c0 true (sB c1 false (sB c2 false ch)))+(F (sB c0 false (sB c1 true (sB c2 false ch)))+F (sB c0 true (sB c1 true (sB c2 false ch))))+(F (sB c0 false (sB c1 false (sB c2 true ch)))+F (sB c0 true (sB c1 false (sB c2 true ch)))+(F (sB c0 false (sB c1 true (sB c2 true ch)))+F (sB c0 true (sB c1 true (sB c2 true ch)))))
theorem SA(F:(Nat->Bool)->Int){c0 c1 c2 n:Nat}(h0:c0<n)(h1:c1<n)(h2:c2<n):8*sm (fun k=>F (cV k)) (2^n)=sm (fun k=>Fc F c0 c1 c2 (cV k)) (2^n):=by
 have a:=CL F h0;have b:=CL (fun ch=>F (sB c0 false ch)+F (sB c0 true ch)) h1;have c:=CL (fun ch=>F (sB c0 false (sB c1 false ch))+F (sB c0 true (sB c1 false ch))+(F (sB c0 false (sB c1 true ch))+F (sB c0 true (sB c1 true ch)))) h2;unfold Fc;dsimp only at a b c⊢;omega
theorem A7(b:Bool)(ch:Nat->Bool)(c:Nat):∀n,c<n->cr false (sB c b ch) n=cr false (sB c false ch) n+(if b then 1 else 0)
 |n+1,h=>by
  have low:∀(b:Bool) (k:Nat),k<=c->cr false (sB c b ch) k=cr false ch k:=fun b k=>by
   induction k with
   |zero=>intro _;rfl
   |succ k ih=>
    intro hk;have e:sB c b ch k=ch k:=by unfold sB;rw[zL (by omega)]
    simp only[cr];rw[ih (by omega),e]
  simp only[cr];by_cases e:n=c
  ·subst e;rw[low b n (by omega),low false n (by omega)];unfold sB;rw[zM rfl,zM rfl];cases b<;>simp
  ·rw[A7 b ch c n (by omega)]
   have:sB c b ch n=sB c false ch n:=by unfold sB;rw[zL e,zL e]
   rw[this];omega
def iK(m:List Int)(n L:Nat)(e:Int)(ch:Nat->Bool):Int:=if 1<=aK m n ch+L then ji (aK m n ch+L-1) (e-((n:Int)-2*cr false ch n)) else 0
theorem CB(m:List Int)(n L:Nat)(e:Int):dF m n L 1 e=sm (fun k=>iK m n L e (cV k)) (2^n):=by
 unfold dF vT;refine oI fun k _=>?_;unfold iK cN wB;rw[I5]
theorem HM{m:List Int}{n L:Nat}(hp:jo m n)(hn:0<n)(e:Int)(ch:Nat->Bool):iK m n L e ch=ji (aK m n ch+L-1) (e-((n:Int)-2*cr false ch n)):=zM (by have:=CS hp ch hn;omega)
namespace Hs
open Sp (cb ai bJ aS ae af bI bm Tr dG bE)
theorem FU(b:Bool)(x:Nat)(hb:b=decide (x % 2=1)):dC b x=ai (ai (ai x))/\dC b (ai (ai (ai x)))=x/\dC b (ai (ai x))=ai x/\dC b (ai x)=ai (ai x)/\dC (!b) x=ai x/\dC (!b) (ai x)=x/\dC (!b) (ai (ai x))=ai (ai (ai x))/\dC (!b) (ai (ai (ai x)))=ai (ai x):=by
 subst hb;unfold dC ai;rcases (show x % 4=0\/x % 4=1\/x % 4=2\/x % 4=3 by omega) with h|h|h|h
 ·have h2:x % 2=0:=by omega
  have q0:(x-x % 4+(x % 4+3)% 4)% 4=3:=by omega
  obtain⟨q,rfl⟩:∃q,x=4*q:=⟨x/4,by omega⟩;simp[Nat.mul_mod_right,Nat.mul_add_mod,show∀a,(4*q+a)% 2=a % 2 from fun a=>by omega,show (4*q)% 2=0 by omega,show (4*q)% 4=0 by omega,show∀a,(4*q+a)% 4=a % 4 from fun a=>by omega]
 ·obtain⟨q,rfl⟩:∃q,x=4*q+1:=⟨x/4,by omega⟩;simp[show∀a,(4*q+a)% 2=a % 2 from fun a=>by omega,show (4*q)% 2=0 by omega,show (4*q)% 4=0 by omega,show∀a,(4*q+a)% 4=a % 4 from fun a=>by omega]
 ·obtain⟨q,rfl⟩:∃q,x=4*q+2:=⟨x/4,by omega⟩;simp[show∀a,(4*q+a)% 2=a % 2 from fun a=>by omega,show (4*q)% 2=0 by omega,show (4*q)% 4=0 by omega,show∀a,(4*q+a)% 4=a % 4 from fun a=>by omega]
 ·obtain⟨q,rfl⟩:∃q,x=4*q+3:=⟨x/4,by omega⟩;simp[show∀a,(4*q+a)% 2=a % 2 from fun a=>by omega,show (4*q)% 2=0 by omega,show (4*q)% 4=0 by omega,show∀a,(4*q+a)% 4=a % 4 from fun a=>by omega]
section
variable{N:Nat}{al al' aj h g H G:Nat->Nat}{ch aI:Nat->Bool}
theorem bU(x:Nat):ai x/4=x/4:=by unfold ai;omega
theorem KX(T:bE N ai al aj h g H G)(k:Nat):(ch (h k/4)=decide (h k % 2=1)->OT (ak ch) h g H G k)/\(ch (h k/4)= !decide (h k % 2=1)->IT (ak ch) h g H G k):=by
 obtain⟨j1,j2,j3,uG,j5,j6,j7,j8⟩:=FU (decide (h k % 2=1)) (h k) rfl;have e1:G k=ai (h k):=(T.s1 k).symm;have e2:H k=ai (ai (h k)):=by rw[<-T.s2,e1]
 have e3:g k=ai (ai (ai (h k))):=by rw[<-T.s3,e2]
 refine⟨fun hc=>?_,fun hc=>?_⟩
 ·unfold OT ak;rw[e1,e2,e3];simp only[bU];rw[hc];exact⟨j1,j2,j3,uG⟩
 ·unfold IT ak;rw[e1,e2,e3];simp only[bU];rw[hc];exact⟨j5,j6,j7,j8⟩
theorem Zq(T:bE N ai al aj h g H G){x k:Nat}(hx:x≠h k/\x≠g k/\x≠H k/\x≠G k):x/4≠h k/4:=fun e=>by
 have e1:G k=ai (h k):=(T.s1 k).symm;have e2:H k=ai (ai (h k)):=by rw[<-T.s2,e1]
 have e3:g k=ai (ai (ai (h k))):=by rw[<-T.s3,e2]
 rw[e1,e2,e3]at hx;unfold ai at hx;omega
theorem Zp(T:bE N ai al aj h g H G)(hc:∀c,c≠h 0/4->c≠h 1/4->c≠h 2/4->aI c=ch c):tA (ak ch) (ak aI) h g H G:=fun x hx=>by
 have q:=fun k=>Zq T (hx k);refine⟨?_,fun k=>?_⟩
 ·unfold ak;rw[hc _ (q 0) (q 1) (q 2)]
 ·have e0:ak ch x/4=x/4:=A8 _ _;have e1:G k=ai (h k):=(T.s1 k).symm;have e2:H k=ai (ai (h k)):=by rw[<-T.s2,e1]
  have e3:g k=ai (ai (ai (h k))):=by rw[<-T.s3,e2]
  have:=q k
  refine⟨fun e=>?_,fun e=>?_,fun e=>?_,fun e=>?_⟩
  ·rw[e]at e0;exact this e0.symm
  ·rw[e,e3,bU,bU,bU]at e0;exact this e0.symm
  ·rw[e,e2,bU,bU]at e0;exact this e0.symm
  ·rw[e,e1,bU]at e0;exact this e0.symm
end
theorem Zo{m m':List Int}{n:Nat}{aj h g H G:Nat->Nat}(hd:bm m n)(er:bm m' n)(T:bE (4*n) ai (ae m) aj h g H G)(cj:∀y,y<4*n->ae m' y=aj (ae m (aj y)))(dq:∀k,h k/4≠h (k+1)/4)
  (hp:¬(h 0 % 2=h 1 % 2/\h 1 % 2=h 2 % 2)) (L:Nat) (e:Int):dF m n L 1 e=dF m' n L 1 e:=by
 have T':=C0 T cj;have Qk:∀y,y<4*n->ae m y=aj (ae m' (aj y)):=fun y hy=>by rw[cj _ (T.iV hy),T.tt,T.tt]
 have d01:=dq 0;have d12:=dq 1;have d20:h 2/4≠h 0/4:=by have:=dq 2;rwa [(T.fD 0).1]at this
 have n0:h 0/4<n:=by have:=(T.lt 0).1;omega
 have n1:h 1/4<n:=by have:=(T.lt 1).1;omega
 have n2:h 2/4<n:=by have:=(T.lt 2).1;omega
 simp only[Nat.zero_add,show 1+1=2 from rfl]at d01 d12;obtain⟨c0,h0⟩:∃c,h 0/4=c:=⟨_,rfl⟩;obtain⟨c1,h1⟩:∃c,h 1/4=c:=⟨_,rfl⟩;obtain⟨c2,h2⟩:∃c,h 2/4=c:=⟨_,rfl⟩;obtain⟨o0,xx⟩:∃o,decide (h 0 % 2=1)=o:=⟨_,rfl⟩;obtain⟨o1,nt⟩:∃o,decide (h 1 % 2=1)=o:=⟨_,rfl⟩;obtain⟨o2,Dy⟩:∃o,decide (h 2 % 2=1)=o:=⟨_,rfl⟩;have cP:¬(o0=o1/\o1=o2):=fun hh=>hp (by
  obtain⟨x,y⟩:=hh;rw[<-xx,<-nt,decide_eq_decide]at x;rw[<-nt,<-Dy,decide_eq_decide]at y;omega)
 have JA:=fun ch:Nat->Bool=>KX (ch:=ch) T 0;have Df:=fun ch:Nat->Bool=>KX (ch:=ch) T 1;have De:=fun ch:Nat->Bool=>KX (ch:=ch) T 2;simp only[h0,xx]at JA;simp only[h1,nt]at Df;simp only[h2,Dy]at De;have S0:=ML T 0;have S1:=ML T 1;have S2:=ML T 2
 have key:∀ch:Nat->Bool,
   aK m n (sB c0 o0 (sB c1 o1 (sB c2 o2 ch)))=aK m n (sB c0 (!o0) (sB c1 o1 (sB c2 o2 ch)))+1/\
   aK m n (sB c0 o0 (sB c1 o1 (sB c2 o2 ch)))=aK m n (sB c0 o0 (sB c1 (!o1) (sB c2 o2 ch)))+1/\
   aK m n (sB c0 o0 (sB c1 o1 (sB c2 o2 ch)))=aK m n (sB c0 o0 (sB c1 o1 (sB c2 (!o2) ch)))+1/\
   aK m' n (sB c0 o0 (sB c1 o1 (sB c2 o2 ch)))=aK m' n (sB c0 (!o0) (sB c1 o1 (sB c2 o2 ch)))+1/\
   aK m' n (sB c0 o0 (sB c1 o1 (sB c2 o2 ch)))=aK m' n (sB c0 o0 (sB c1 (!o1) (sB c2 o2 ch)))+1/\
   aK m' n (sB c0 o0 (sB c1 o1 (sB c2 o2 ch)))=aK m' n (sB c0 o0 (sB c1 o1 (sB c2 (!o2) ch)))+1/\
   aK m n (sB c0 (!o0) (sB c1 o1 (sB c2 o2 ch)))=aK m' n (sB c0 (!o0) (sB c1 (!o1) (sB c2 (!o2) ch)))/\
   aK m' n (sB c0 (!o0) (sB c1 o1 (sB c2 o2 ch)))=aK m n (sB c0 (!o0) (sB c1 (!o1) (sB c2 (!o2) ch)))/\
   aK m n (sB c0 o0 (sB c1 (!o1) (sB c2 (!o2) ch)))=aK m' n (sB c0 o0 (sB c1 (!o1) (sB c2 (!o2) ch)))/\
   aK m n (sB c0 (!o0) (sB c1 o1 (sB c2 (!o2) ch)))=aK m' n (sB c0 (!o0) (sB c1 o1 (sB c2 (!o2) ch)))/\
   aK m n (sB c0 (!o0) (sB c1 (!o1) (sB c2 o2 ch)))=aK m' n (sB c0 (!o0) (sB c1 (!o1) (sB c2 o2 ch))):=fun ch=>by
  have v0:∀x y z,sB c0 x (sB c1 y (sB c2 z ch)) c0=x:=fun x y z=>by unfold sB;rw[zM rfl]
  have v1:∀x y z,sB c0 x (sB c1 y (sB c2 z ch)) c1=y:=fun x y z=>by unfold sB;rw[zL (by omega),zM rfl]
  have v2:∀x y z,sB c0 x (sB c1 y (sB c2 z ch)) c2=z:=fun x y z=>by unfold sB;rw[zL (by omega),zL (by omega),zM rfl]
  have of:∀x y z x' y' z',tA (ak (sB c0 x (sB c1 y (sB c2 z ch)))) (ak (sB c0 x' (sB c1 y' (sB c2 z' ch)))) h g H G:=fun x y z x' y' z'=>Zp T fun c g0 g1 g2=>by
   rw[h0]at g0;rw[h1]at g1;rw[h2]at g2;unfold sB;rw[zL g0,zL g1,zL g2,zL g0,zL g1,zL g2]
  have O0:∀y z,OT (ak (sB c0 o0 (sB c1 y (sB c2 z ch)))) h g H G 0:=fun y z=>(JA _).1 (v0 _ _ _);have I0:∀y z,IT (ak (sB c0 (!o0) (sB c1 y (sB c2 z ch)))) h g H G 0:=fun y z=>(JA _).2 (v0 _ _ _);have O1:∀x z,OT (ak (sB c0 x (sB c1 o1 (sB c2 z ch)))) h g H G 1:=fun y z=>(Df _).1 (v1 _ _ _);have I1:∀x z,IT (ak (sB c0 x (sB c1 (!o1) (sB c2 z ch)))) h g H G 1:=fun y z=>(Df _).2 (v1 _ _ _)
  have O2:∀x y,OT (ak (sB c0 x (sB c1 y (sB c2 o2 ch)))) h g H G 2:=fun y z=>(De _).1 (v2 _ _ _);have I2:∀x y,IT (ak (sB c0 x (sB c1 y (sB c2 (!o2) ch)))) h g H G 2:=fun y z=>(De _).2 (v2 _ _ _);have pO:∀{st:Nat->Nat} {k:Nat},OT st h g H G k->OT st h g H G (k+3):=fun {st k} o=>by
   obtain⟨p1,p2,p3,p4⟩:=T.fD k;unfold OT;rw[p1,p2,p3,p4];exact o
  have pI:∀{st:Nat->Nat} {k:Nat},IT st h g H G k->IT st h g H G (k+3):=fun {st k} o=>by
   obtain⟨p1,p2,p3,p4⟩:=T.fD k;unfold IT;rw[p1,p2,p3,p4];exact o
  have sh:∀{st rP:Nat->Nat} (j:Nat),tA st rP h g H G->tA st rP (fun k=>h (k+j)) (fun k=>g (k+j)) (fun k=>H (k+j)) (fun k=>G (k+j)):=fun {st rP} j o x hx=>by
   have N7:∀b a,h (a+3*b)=h a/\g (a+3*b)=g a/\H (a+3*b)=H a/\G (a+3*b)=G a:=fun b=>by
    induction b with
    |zero=>intro a;exact⟨rfl,rfl,rfl,rfl⟩
    |succ b ih=>
     intro a;obtain⟨i1,i2,i3,i4⟩:=ih (a+3);obtain⟨p1,p2,p3,p4⟩:=T.fD a;rw[show a+3*(b+1)=a+3+3*b by omega];exact⟨i1.trans p1,i2.trans p2,i3.trans p3,i4.trans p4⟩
   obtain⟨a,b⟩:=o x fun k=>by
    obtain⟨q1,q2,q3,q4⟩:=N7 j k
    have:=hx (k+2*j)
    simp only[show k+2*j+j=k+3*j by omega,q1,q2,q3,q4]at this;exact this
   exact⟨a,fun k=>b (k+j)⟩
  have Di:∀{M:List Int} {hh gg HH GG:Nat->Nat} (ha:bm M n) (TT:bE (4*n) ai (ae M) aj hh gg HH GG) {a b:Nat->Bool},OT (ak a) hh gg HH GG 0->OT (ak a) hh gg HH GG 1->OT (ak a) hh gg HH GG 2->IT (ak b) hh gg HH GG 0->OT (ak b) hh gg HH GG 1->OT (ak b) hh gg HH GG 2->tA (ak a) (ak b) hh gg HH GG->aK M n a=aK M n b+1:=by
   intro M hh gg HH GG ha TT a b x1 x2 x3 x4 x5 x6 o;exact y69 ha TT x1 x2 x3 x4 x5 x6 (fun x hx=>(o x hx).1) (fun x hx=>(o x hx).2)
  have cj1:=cj;have fo:∀{st rP:Nat->Nat},tA st rP h g H G->tA st rP H G h g:=fun {st rP} o x hx=>by
   obtain⟨a,b⟩:=o x fun k=>⟨(hx k).2.2.1,(hx k).2.2.2,(hx k).1,(hx k).2.1⟩;exact⟨a,fun k=>⟨(b k).2.2.1,(b k).2.2.2,(b k).1,(b k).2.1⟩⟩
  refine⟨?_,?_,?_,?_,?_,?_,?_,?_,?_,?_,?_⟩
  ·exact Di hd T (O0 _ _) (O1 _ _) (O2 _ _) (I0 _ _) (O1 _ _) (O2 _ _) (of _ _ _ _ _ _)
  ·exact Di hd S1 (O1 _ _) (O2 _ _) (pO (O0 _ _)) (I1 _ _) (O2 _ _) (pO (O0 _ _)) (sh 1 (of _ _ _ _ _ _))
  ·exact Di hd S2 (O2 _ _) (pO (O0 _ _)) (pO (O1 _ _)) (I2 _ _) (pO (O0 _ _)) (pO (O1 _ _)) (sh 2 (of _ _ _ _ _ _))
  ·exact Di er T' (O0 _ _).flip (O1 _ _).flip (O2 _ _).flip (I0 _ _).flip (O1 _ _).flip (O2 _ _).flip (fo (of _ _ _ _ _ _))
  ·exact Di er (C0 S1 cj) (O1 _ _).flip (O2 _ _).flip (pO (O0 _ _)).flip (I1 _ _).flip (O2 _ _).flip (pO (O0 _ _)).flip (fun x hx=>by
    obtain⟨a,b⟩:=sh 1 (of _ _ _ _ _ _) x fun k=>⟨(hx k).2.2.1,(hx k).2.2.2,(hx k).1,(hx k).2.1⟩;exact⟨a,fun k=>⟨(b k).2.2.1,(b k).2.2.2,(b k).1,(b k).2.1⟩⟩)
  ·exact Di er (C0 S2 cj) (O2 _ _).flip (pO (O0 _ _)).flip (pO (O1 _ _)).flip (I2 _ _).flip (pO (O0 _ _)).flip (pO (O1 _ _)).flip (fun x hx=>by
    obtain⟨a,b⟩:=sh 2 (of _ _ _ _ _ _) x fun k=>⟨(hx k).2.2.1,(hx k).2.2.2,(hx k).1,(hx k).2.1⟩;exact⟨a,fun k=>⟨(b k).2.2.1,(b k).2.2.2,(b k).1,(b k).2.1⟩⟩)
  ·exact QR hd er T cj (I0 _ _) (O1 _ _) (O2 _ _) (I0 _ _) (I1 _ _) (I2 _ _) (of _ _ _ _ _ _)
  ·exact QR er hd T' Qk (I0 _ _).flip (O1 _ _).flip (O2 _ _).flip (I0 _ _).flip (I1 _ _).flip (I2 _ _).flip (fo (of _ _ _ _ _ _))
  ·exact Lf hd er T cj (O0 _ _) (I1 _ _) (I2 _ _) (O0 _ _) (I1 _ _) (I2 _ _) (of _ _ _ _ _ _)
  ·exact Lf hd er S1 cj (O1 _ _) (I2 _ _) (pI (I0 _ _)) (O1 _ _) (I2 _ _) (pI (I0 _ _)) (sh 1 (of _ _ _ _ _ _))
  ·exact Lf hd er S2 cj (O2 _ _) (pI (I0 _ _)) (pI (I1 _ _)) (O2 _ _) (pI (I0 _ _)) (pI (I1 _ _)) (sh 2 (of _ _ _ _ _ _))
 have dL:jo m n:=⟨hd.prd.ok,hd.prd.inv,hd.ne⟩;have eO:jo m' n:=⟨er.prd.ok,er.prd.inv,er.ne⟩;have a:=SA (iK m n L e) (show c0<n by omega) (show c1<n by omega) (show c2<n by omega);have b:=SA (iK m' n L e) (show c0<n by omega) (show c1<n by omega) (show c2<n by omega);have fin:∀ch:Nat->Bool,Fc (iK m n L e) c0 c1 c2 ch=Fc (iK m' n L e) c0 c1 c2 ch:=fun ch=>by
  obtain⟨k1,k2,k3,k4,k5,k6,k7,k8,k9,V3,V2⟩:=key ch;have AP:∀x y z,cr false (sB c0 x (sB c1 y (sB c2 z ch))) n=cr false (sB c0 false (sB c1 false (sB c2 false ch))) n+(if x then 1 else 0)+(if y then 1 else 0)+(if z then 1 else 0):=fun x y z=>by
   rw[A7 x _ c0 n (by omega),zh (show c0≠c1 by omega),A7 y _ c1 n (by omega),zh (show c0≠c2 by omega),zh (show c1≠c2 by omega),A7 z _ c2 n (by omega),zh (show c1≠c0 by omega),zh (show c2≠c0 by omega),zh (show c2≠c1 by omega)];omega
  obtain⟨z,hz⟩:∃z:Int,z=e-(n:Int)+2*(cr false (sB c0 false (sB c1 false (sB c2 false ch))) n:Nat):=⟨_,rfl⟩;obtain⟨Q,hQ⟩:∃Q:Nat->Int->Int,∀c s,Q c s=ji (c+L-1) (z+2*s):=⟨_,fun _ _=>rfl⟩;have yP:∀c s,1<=c->Q (c+1) s= -Q c (s+1)-Q c (s-1):=fun c s hc=>by
   rw[hQ,hQ,hQ,show c+1+L-1=(c+L-1)+1 by omega];show fE (ji (c+L-1)) (z+2*s)=_;unfold fE;rw[show z+2*s+2=z+2*(s+1) by omega,show z+2*s-2=z+2*(s-1) by omega]
  have F:∀x y w,iK m n L e (sB c0 x (sB c1 y (sB c2 w ch)))=Q (aK m n (sB c0 x (sB c1 y (sB c2 w ch)))) ((if x then 1 else 0)+(if y then 1 else 0)+(if w then 1 else 0)):=fun x y w=>by
   rw[HM dL (by omega),hQ,AP];congr 1;rw[hz];cases x<;>cases y<;>cases w<;>simp<;>omega
  have F':∀x y w,iK m' n L e (sB c0 x (sB c1 y (sB c2 w ch)))=Q (aK m' n (sB c0 x (sB c1 y (sB c2 w ch)))) ((if x then 1 else 0)+(if y then 1 else 0)+(if w then 1 else 0)):=fun x y w=>by
   rw[HM eO (by omega),hQ,AP];congr 1;rw[hz];cases x<;>cases y<;>cases w<;>simp<;>omega
  have p1:=CS dL (sB c0 (!o0) (sB c1 o1 (sB c2 o2 ch))) (by omega);have p2:=CS eO (sB c0 (!o0) (sB c1 o1 (sB c2 o2 ch))) (by omega);have e2:aK m n (sB c0 o0 (sB c1 (!o1) (sB c2 o2 ch)))=aK m n (sB c0 (!o0) (sB c1 o1 (sB c2 o2 ch))):=by omega
  have e3:aK m n (sB c0 o0 (sB c1 o1 (sB c2 (!o2) ch)))=aK m n (sB c0 (!o0) (sB c1 o1 (sB c2 o2 ch))):=by omega
  have e5:aK m' n (sB c0 o0 (sB c1 (!o1) (sB c2 o2 ch)))=aK m' n (sB c0 (!o0) (sB c1 o1 (sB c2 o2 ch))):=by omega
  have e6:aK m' n (sB c0 o0 (sB c1 o1 (sB c2 (!o2) ch)))=aK m' n (sB c0 (!o0) (sB c1 o1 (sB c2 o2 ch))):=by omega
  clear AP k2 k3 k5 k6;unfold Fc;simp only[F,F'];clear F F' a b JA Df De hQ hz;cases o0<;>cases o1<;>cases o2<;>first|exact zzA ⟨rfl,rfl⟩ cP|skip
  all_goals
   simp only[Bool.not_true,Bool.not_false]at k1 k4 k7 k8 k9 V3 V2 e2 e3 e5 e6 p1 p2;rw[k1,k4,e2,e3,e5,e6,<-k7,<-k8,k9,V3,V2,yP _ _ p1,yP _ _ p2];simp;omega
 rw[CB,CB];rw[oI (n:=2^n) fun k _=>fin (cV k)]at a;omega
structure wW(N:Nat)(U:Nat->Prop)(al jn:Nat->Nat):Prop where
 lt:∀x,U x->x<N
 al:∀x,U x->U (al x)/\al (al x)=x/\al x≠x
 jn:∀x,U x->U (jn x)/\jn (jn x)=x
section
variable{N:Nat}{U S:Nat->Prop}{al jn:Nat->Nat}
theorem wW.cl(P:wW N U al jn){x y:Nat}(h:Ci al jn x y)(hx:U x):U y:=by
 induction h with
 |refl=>exact hx
 |mate _ ih=>exact(P.al _ ih).1
 |join _ ih=>exact(P.jn _ ih).1
theorem wW.sy(P:wW N U al jn){x y:Nat}(h:Ci al jn x y)(hx:U x):Ci al jn y x:=by
 induction h with
 |refl=>exact .refl _
 | @mate y h ih=>
   have hy:=P.cl h hx
   have:=Ci.mate (jn:=jn) (.refl (al:=al) (al y))
   rw[(P.al y hy).2.1]at this;exact this.trans ih
 | @join y h ih=>
   have hy:=P.cl h hx
   have:=Ci.join (al:=al) (.refl (jn:=jn) (jn y))
   rw[(P.jn y hy).2]at this;exact this.trans ih
theorem CE(al:Nat->Nat)(a b x:Nat):cl al a b x=if al a=b then al x else if x=al a then al b else if x=al b then al a else al x:=rfl
theorem M6(P:wW N U al jn){a b:Nat}(sU:∀x,S x->U x)(sa:S a)(sb:S b)(ab:a≠b)(sj:∀x,S x->S (jn x))(sl:∀x,S x->x≠a->x≠b->S (al x))(sc:∀x,S x->Ci al jn a x)
  (so:al a=b\/(¬S (al a)/\ ¬S (al b))):
  wW N (fun x=>U x/\ ¬S x) (cl al a b) jn/\ ∀l,Tr N (fun x=>U x/\ ¬S x) (Ci (cl al a b) jn) l->Tr N U (Ci al jn) (l++if al a=b then [a] else []):=by
 have ja:∀x,U x->¬S x->¬S (jn x):=fun x hx h hs=>h (by have:=sj _ hs;rwa [(P.jn x hx).2]at this);obtain⟨ua,ia,na⟩:=P.al a (sU a sa);obtain⟨ub,ib,nb⟩:=P.al b (sU b sb);have sL:∀x,U x->¬S x->S (al x)->(al x=a\/al x=b)/\(x=al a\/x=al b):=fun x hx h hs=>by
  by_cases h1:al x=a
  ·exact⟨.inl h1,.inl (by rw[<-h1,(P.al x hx).2.1])⟩
  by_cases h2:al x=b
  ·exact⟨.inr h2,.inr (by rw[<-h2,(P.al x hx).2.1])⟩
  have:=sl _ hs h1 h2
  rw[(P.al x hx).2.1]at this;exact zzA this h
 by_cases gL:al a=b
 ·have GO:al b=a:=by rw[<-gL];exact ia
  have e:∀x,cl al a b x=al x:=fun x=>by rw[CE,zM gL]
  have e':cl al a b=al:=funext e;have pH:∀x,U x->¬S x->¬S (al x):=fun x hx h hs=>by
   rcases (sL x hx h hs).2 with g|g
   ·rw[gL]at g;exact h (g▸sb)
   ·rw[GO]at g;exact h (g▸sa)
  have P2:wW N (fun x=>U x/\ ¬S x) al jn:=⟨fun x hx=>P.lt x hx.1,fun x hx=>⟨⟨(P.al x hx.1).1,pH x hx.1 hx.2⟩,(P.al x hx.1).2⟩,fun x hx=>⟨⟨(P.jn x hx.1).1,ja x hx.1 hx.2⟩,(P.jn x hx.1).2⟩⟩;rw[e'];refine⟨P2,fun l hl=>?_⟩;rw[zM gL];have sS:∀x y,S x->Ci al jn x y->S y:=fun x y hx h=>by
   induction h with
   |refl=>exact hx
   | @mate y _ ih=>
     by_cases g:y=a
     ·rw[g,gL];exact sb
     by_cases g2:y=b
     ·rw[g2,GO];exact sa
     exact sl y ih g g2
   |join _ ih=>exact sj _ ih
  have h1:Tr N S (Ci al jn) [a]:=⟨fun x hx=>by rw[zP]at hx;subst hx;exact⟨P.lt _ (sU _ sa),sa⟩,by simp,by simp,fun x _ hx=>⟨a,by simp,P.sy (sc x hx) (sU a sa)⟩⟩;have h2:=Tr.append hl h1 (fun x y _ _ hx hy=>⟨fun c=>(P2.cl c hx).2 hy,fun c=>hx.2 (sS y x hy c)⟩) (fun x _ hx=>hx.2);refine h2.aZ (fun x _=>⟨fun h=>h.elim And.left (sU x),fun h=>?_⟩) (fun _ _ _ _ _ _=>Iff.rfl)
  by_cases g:S x
  ·exact .inr g
  ·exact .inl ⟨h,g⟩
 ·obtain⟨oa,ob⟩:=so.resolve_left gL;have va:cl al a b (al a)=al b:=by rw[CE,zL gL,zM rfl]
  have vb:cl al a b (al b)=al a:=by
   rw[CE,zL gL];by_cases g:al b=al a
   ·exact zzA (by rw[<-ia,<-g,ib]) ab
   ·rw[zL g,zM rfl]
  have vo:∀x,x≠al a->x≠al b->cl al a b x=al x:=fun x h1 h2=>by rw[CE,zL gL,zL h1,zL h2]
  have P2:wW N (fun x=>U x/\ ¬S x) (cl al a b) jn:=by
   refine⟨fun x hx=>P.lt x hx.1,fun x hx=>?_,fun x hx=>⟨⟨(P.jn x hx.1).1,ja x hx.1 hx.2⟩,(P.jn x hx.1).2⟩⟩;have Ad:al a≠al b:=fun g=>ab (by rw[<-ia,g,ib]);by_cases g1:x=al a
   ·rw[g1,va,vb];exact⟨⟨ub,ob⟩,rfl,fun g=>Ad g.symm⟩
   by_cases g2:x=al b
   ·rw[g2,vb,va];exact⟨⟨ua,oa⟩,rfl,Ad⟩
   obtain⟨u1,u2,u3⟩:=P.al x hx.1;have h1:¬S (al x):=fun hs=>by
    rcases (sL x hx.1 hx.2 hs).2 with g|g
    ·exact g1 g
    ·exact g2 g
   rw[vo x g1 g2,vo (al x) (fun g=>h1 (by
    have:=congrArg al g
    rw[u2,ia]at this;exact zzA (this▸sa) hx.2)) (fun g=>h1 (by
    have:=congrArg al g
    rw[u2,ib]at this;exact zzA (this▸sb) hx.2))]
   exact⟨⟨u1,h1⟩,u2,u3⟩
  refine⟨P2,fun l hl=>?_⟩;rw[zL gL,List.append_nil];have to:∀x y,Ci (cl al a b) jn x y->(U x/\ ¬S x)->Ci al jn x y:=fun x y h hx=>by
   induction h with
   |refl=>exact .refl _
   | @mate y h ih=>
     have hy:=P2.cl h hx;by_cases g1:y=al a
     ·have hxa:Ci al jn x a:=by
       have:=ih.mate;rwa [g1,ia]at this
      rw[g1,va];exact(hxa.trans (sc b sb)).mate
     by_cases g2:y=al b
     ·have hxb:Ci al jn x b:=by
       have:=ih.mate;rwa [g2,ib]at this
      rw[g2,vb];exact(hxb.trans (P.sy (sc b sb) (sU a sa))).mate
     rw[vo y g1 g2];exact ih.mate
   |join _ ih=>exact ih.join
  have back:∀x y,(U x/\ ¬S x)->Ci al jn x y->(¬S y->Ci (cl al a b) jn x y)/\(S y->Ci (cl al a b) jn x (al a)/\Ci (cl al a b) jn x (al b)):=fun x y hx h=>by
   have PH:∀{z},Ci (cl al a b) jn z (al a)->Ci (cl al a b) jn z (al b):=fun h=>by have:=h.mate;rwa [va]at this
   have PG:∀{z},Ci (cl al a b) jn z (al b)->Ci (cl al a b) jn z (al a):=fun h=>by have:=h.mate;rwa [vb]at this
   induction h with
   |refl=>exact⟨fun _=> .refl _,fun hs=>zzA hs hx.2⟩
   | @mate y h ih=>
     have hy:=P.cl h hx.1;by_cases g:S y
     ·refine⟨fun hn=>?_,fun hs=>(ih.2 g)⟩;by_cases g1:y=a
      ·rw[g1];exact(ih.2 g).1
      by_cases g2:y=b
      ·rw[g2];exact(ih.2 g).2
      exact zzA (sl y g g1 g2) hn
     ·refine⟨fun hn=>?_,fun hs=>?_⟩
      ·have g1:y≠al a:=fun e=>hn (by rw[e,ia];exact sa);have g2:y≠al b:=fun e=>hn (by rw[e,ib];exact sb)
       have:=(ih.1 g).mate
       rwa [vo y g1 g2]at this
      ·rcases (sL y hy g hs).2 with e|e
       ·have:=ih.1 g
        rw[e]at this;exact⟨this,PH this⟩
       ·have:=ih.1 g
        rw[e]at this;exact⟨PG this,this⟩
   | @join y h ih=>
     have hy:=P.cl h hx.1;by_cases g:S y
     ·exact⟨fun hn=>zzA (sj y g) hn,fun _=>ih.2 g⟩
     ·exact⟨fun _=>(ih.1 g).join,fun hs=>zzA hs (ja y hy g)⟩
  refine⟨fun x hx=>⟨(hl.mem x hx).1,(hl.mem x hx).2.1⟩,hl.nodup,fun x hx y hy c=>hl.apart x hx y hy ((back x y (hl.mem x hx).2 c).1 (hl.mem y hy).2.2),fun x hx hU=>?_⟩;by_cases g:S x
  ·obtain⟨y,hy,c⟩:=hl.all (al a) (P.lt _ ua) ⟨ua,oa⟩;refine⟨y,hy,?_⟩;have h1:Ci al jn x a:=P.sy (sc x g) (sU a sa);exact(h1.mate).trans (to _ _ c ⟨ua,oa⟩)
  ·obtain⟨y,hy,c⟩:=hl.all x hx ⟨hU,g⟩;exact⟨y,hy,to _ _ c ⟨hU,g⟩⟩
theorem UZ{N':Nat}{al' Dr:Nat->Nat}{up:Nat->Nat}(P:wW N U al jn)(inj:∀x y,up x=up y->x=y)(uU:∀x,x<N'->U (up x))(sur:∀z,U z->∃x,x<N'/\up x=z)(ha:∀x,x<N'->al' x<N'/\al (up x)=up (al' x))(hj:∀x,x<N'->Dr x<N'/\jn (up x)=up (Dr x)){l:List Nat}
  (h:Tr N' (fun _=>True) (Ci al' Dr) l):Tr N U (Ci al jn) (l.map up):=by
 have to:∀x y,x<N'->Ci al' Dr x y->y<N'/\Ci al jn (up x) (up y):=fun x y hx c=>by
  induction c with
  |refl=>exact⟨hx,.refl _⟩
  | @mate y _ ih=>exact⟨(ha y ih.1).1,by rw[<-(ha y ih.1).2];exact ih.2.mate⟩
  | @join y _ ih=>exact⟨(hj y ih.1).1,by rw[<-(hj y ih.1).2];exact ih.2.join⟩
 have back:∀x z,x<N'->Ci al jn (up x) z->∃y,y<N'/\z=up y/\Ci al' Dr x y:=fun x z hx c=>by
  induction c with
  |refl=>exact⟨x,hx,rfl,.refl _⟩
  |mate _ ih=>
   obtain⟨y,h1,rfl,h2⟩:=ih;exact⟨al' y,(ha y h1).1,(ha y h1).2,h2.mate⟩
  |join _ ih=>
   obtain⟨y,h1,rfl,h2⟩:=ih;exact⟨Dr y,(hj y h1).1,(hj y h1).2,h2.join⟩
 refine⟨fun z hz=>?_,Np (fun x _ y _ e=>inj x y e) h.nodup,fun z hz w hw c=>?_,fun z hz hU=>?_⟩
 ·obtain⟨x,hx,rfl⟩:=zzE.1 hz
  have:=uU x (h.mem x hx).1
  exact⟨P.lt _ this,this⟩
 ·obtain⟨x,hx,rfl⟩:=zzE.1 hz;obtain⟨y,hy,rfl⟩:=zzE.1 hw;obtain⟨y',_,e,c'⟩:=back x _ (h.mem x hx).1 c;obtain rfl:=inj _ _ e;rw[h.apart x hx _ hy c']
 ·obtain⟨x,hx,rfl⟩:=sur z hU;obtain⟨y,hy,c⟩:=h.all x hx trivial;exact⟨up y,zzE.2 ⟨y,hy,rfl⟩,(to x y hx c).2⟩
end
end Hs
theorem L7(F:(Nat->Bool)->Int){c n:Nat}(hc:c<=n):sm (fun k=>F (fun i=>cV k (Hs.bo c i))) (2^(n+1))=2*sm (fun k=>F (cV k)) (2^n):=by
 obtain⟨r,rfl⟩:∃r,n=c+r:=⟨n-c,by omega⟩;have e:∀t,t<2->∀k3 k1,k1<2^c->(fun i=>cV (2^c*(2*k3+t)+k1) (Hs.bo c i))=cV (2^c*k3+k1):=fun t ht k3 k1 h=>funext fun i=>by
  rw[y68 ht h];unfold Hs.bo;by_cases hi:i<c
  ·rw[zM hi,zM hi,RG hi]
  ·rw[zL hi,zL (by omega),zL (by omega)];obtain⟨j,rfl⟩:∃j,i=c+j:=⟨i-c,by omega⟩;rw[Ll h,show c+j+1-c-1=j by omega]
 have p:sm (fun k=>F (cV k)) (2^(c+r))=sm (fun k3=>sm (fun k1=>F (cV (2^c*k3+k1))) (2^c)) (2^r):=by
  rw[show 2^(c+r)=2^c*2^r from Nat.pow_add _ _ _,Es]
 rw[Zr,p];have q:∀t,t<2->sm (fun k3=>sm (fun k1=>F (fun i=>cV (2^c*(2*k3+t)+k1) (Hs.bo c i))) (2^c)) (2^r)=sm (fun k3=>sm (fun k1=>F (cV (2^c*k3+k1))) (2^c)) (2^r):=fun t ht=>oI fun k3 _=>oI fun k1 h1=>by
  show F (fun i=>cV (2^c*(2*k3+t)+k1) (Hs.bo c i))=_;rw[e t ht k3 k1 h1]
 rw[q 0 (by omega),q 1 (by omega)];omega
theorem M5(ch:Nat->Bool)(c:Nat):∀n,c<=n->cr false (sB c false ch) (n+1)=cr false (fun i=>ch (Hs.bo c i)) n:=fun n h=>by
 have low:∀k,k<=c->cr false (sB c false ch) k=cr false (fun i=>ch (Hs.bo c i)) k:=fun k=>by
  induction k with
  |zero=>intro _;rfl
  |succ k ih=>
   intro hk;simp only[cr];rw[ih (by omega)];have e1:sB c false ch k=ch (Hs.bo c k):=by unfold sB Hs.bo;rw[zL (by omega),zM (by omega)]
   rw[e1]
 obtain⟨d,rfl⟩:∃d,n=c+d:=⟨n-c,by omega⟩;clear h
 induction d with
 |zero=>
  show cr false (sB c false ch) c+_=_;rw[low c (zA _)]
  have:sB c false ch c=false:=by unfold sB;rw[zM rfl]
  rw[this];rfl
 |succ d ih=>
  have e1:sB c false ch (c+d+1)=ch (Hs.bo c (c+d)):=by unfold sB Hs.bo;rw[zL (by omega),zL (by omega)]
  show cr false (sB c false ch) (c+d+1)+_=cr false (fun i=>ch (Hs.bo c i)) (c+d)+_;rw[ih];show _+(if sB c false ch (c+d+1)=false then 0 else 1)=_+(if ch (Hs.bo c (c+d))=false then 0 else 1);rw[e1]
set_option maxHeartbeats 400000
namespace Hs
open Sp (cb ai bJ aS ae af bI bm Tr dG bE)
theorem Rz{x y:Nat}(h:y/4=x/4):y=x\/y=ai x\/y=ai (ai x)\/y=ai (ai (ai x)):=by
 unfold ai;omega
section
variable{m m':List Int}{n n':Nat}{p1 p2 q1 q2:Nat}
def cI(a b c d x:Nat):Prop:=x=a\/x=b\/x=c\/x=d
theorem cI.all{a b c d x:Nat}(h:cI a b c d x)(Q:Nat->Prop)(ha:Q a)(hb:Q b)(hc:Q c)(hd:Q d):Q x:=by
 rcases h with h|h|h|h<;>rw[h]<;>assumption
theorem cI.a{a b c d:Nat}:cI a b c d a:= .inl rfl
theorem cI.b{a b c d:Nat}:cI a b c d b:= .inr (.inl rfl)
theorem cI.c{a b c d:Nat}:cI a b c d c:= .inr (.inr (.inl rfl))
theorem cI.d{a b c d:Nat}:cI a b c d d:= .inr (.inr (.inr rfl))
theorem cI.no{a b c d x:Nat}(ha:x≠a)(hb:x≠b)(hc:x≠c)(hd:x≠d):¬cI a b c d x:=by
 rintro (h|h|h|h)
 ·exact ha h
 ·exact hb h
 ·exact hc h
 ·exact hd h
theorem E9{lo hi:Nat}(jK:lo<hi)(i:Nat):bo hi (bo lo i)≠lo/\bo hi (bo lo i)≠hi:=by unfold bo;split<;>split<;>omega
theorem Zn{lo hi:Nat}(jK:lo<hi)(ch:Nat->Bool):(fun i=>sB lo false ch (bo hi i))=sB lo false (fun i=>ch (bo hi i)):=funext fun i=>by
 unfold sB;by_cases g:i=lo
 ·rw[zM g,zM (by unfold bo;split<;>omega)]
 ·rw[zL g,zL (by unfold bo;split<;>omega)]
theorem Fa{lo hi n' x:Nat}(jK:lo<hi)(gJ:hi<n'+2)(hx:x<4*n'):aR hi (aR lo x)<4*(n'+2)/\aR hi (aR lo x)/4≠lo/\aR hi (aR lo x)/4≠hi:=by
 unfold aR;split<;>split<;>omega
theorem Zm{lo hi n' z:Nat}(jK:lo<hi)(gJ:hi<n'+2)(this:z<4*(n'+2)/\z/4≠lo/\z/4≠hi):∃x,x<4*n'/\aR hi (aR lo x)=z:=by
 by_cases g1:z/4<lo
 ·exact⟨z,by omega,by unfold aR;rw[zM g1,zM (by omega)]⟩
 by_cases g2:z/4<hi
 ·exact⟨z-4,by omega,by unfold aR;rw[zL (show¬(z-4)/4<lo by omega),zM (by omega)];omega⟩
 ·exact⟨z-8,by omega,by unfold aR;rw[zL (show¬(z-8)/4<lo by omega),zL (by omega)];omega⟩
theorem Le(b:Bool)(c x:Nat):dC b (aR c x)=aR c (dC b x):=by
 have h:=A8 b x;unfold aR;rw[h]
 split
 ·rfl
 ·unfold dC;rw[show (x+4)% 2=x % 2 by omega,show (x+4)% 4=x % 4 by omega];generalize (if decide (x % 2=1)=b then 1 else 3)=z;omega
theorem NP(x:Nat):ai (ai (ai (ai x)))=x:=by unfold ai;omega
theorem L6(hd:bm m n){ch aI:Nat->Bool}{J:Nat->Prop}{u v j0:Nat}(hu:u<4*n)(nu:¬J u)(nv:¬J v)(jn:∀x,J x->x<4*n)(Ou:J j0)
  (Ds:∀x,x<4*n->(J x↔J (ae m x))) (FQ:∀x,x<4*n->(J x↔J (ak ch x))) (uv:ak ch u=v) (vu:ak ch v=u) (one:∀x,J x->Ci (ae m) (ak ch) j0 x)
  (off:∀x,x<4*n->¬J x->x≠u->x≠v->ak aI x=ak ch x) (ju:J (ak aI u)) (jv:J (ak aI v)) (Ot:∀x,J x->ak aI x=u\/ak aI x=v\/J (ak aI x)) (all:∀x,J x->Ci (ae m) (ak aI) u x):
  aK m n ch=aK m n aI+1:=by
 classical
 have P:=kJ hd ch;have P':=kJ hd aI;have hv:v<4*n:=by rw[<-uv];exact P.jl u hu
 have Xp:Ci (ae m) (ak ch) u v:=by rw[<-uv];exact .iD _
 have Hq:Ci (ae m) (ak aI) u v:=by
  have h1:=(all _ jv).join;rwa [P'.jj v hv]at h1
 refine L8 hd hd ch aI (fun y=>if J y then u else y) (fun x=>x) J [j0] (fun y hy=>?_) (fun x hx hj=>?_) ⟨fun x hx=>?_,by simp,by simp,fun x hx hj=>⟨j0,by simp,(one x hj).symm P (jn _ Ou)⟩⟩
 ·show (if J y then u else y)<4*n/\ ¬J (if J y then u else y)/\Ci (ae m) (ak ch) (if J y then u else y) (if J (ae m y) then u else ae m y)/\Ci (ae m) (ak ch) (if J y then u else y) (if J (ak aI y) then u else ak aI y)/\Ci (ae m) (ak aI) (if J y then u else y) y;by_cases hi:J y
  ·rw[zM hi,zM ((Ds y hy).1 hi)];refine⟨hu,nu,.refl _,?_,all y hi⟩;rcases Ot y hi with h|h|h
   ·rw[h,zL nu];exact .refl _
   ·rw[h,zL nv];exact Xp
   ·rw[zM h];exact .refl _
  ·rw[zL hi,zL (fun h=>hi ((Ds y hy).2 h))];refine⟨hy,hi,.al1 _,?_,.refl _⟩;by_cases h1:y=u
   ·subst h1;rw[zM ju];exact .refl _
   by_cases h2:y=v
   ·subst h2;rw[zM jv];exact Xp.symm P hu
   rw[off y hy hi h1 h2,zL (fun h=>hi ((FQ y hy).2 h))];exact .iD _
 ·show x<4*n/\ ¬J (ae m x)/\ ¬J (ak ch x)/\Ci (ae m) (ak aI) x (ae m x)/\Ci (ae m) (ak aI) x (ak ch x)/\Ci (ae m) (ak ch) (if J x then u else x) x;rw[zL hj];refine⟨hx,fun h=>hj ((Ds x hx).2 h),fun h=>hj ((FQ x hx).2 h),.al1 _,?_,.refl _⟩;by_cases h1:x=u
  ·subst h1;rw[uv];exact Hq
  by_cases h2:x=v
  ·subst h2;rw[vu];exact Hq.symm P' hu
  rw[<-off x hx hj h1 h2];exact .iD _
 ·rw[zP]at hx;subst hx;exact⟨jn _ Ou,Ou⟩
end
theorem y3i{m m':List Int}{n n' L L':Nat}{cp cq lo hi:Nat}{o:Bool}(dL:jo m n)(hn:n=n'+2)(jK:lo<hi)(gJ:hi<n)(dS:(cp=lo/\cq=hi)\/(cp=hi/\cq=lo))
  (oo:∀ch aI:Nat->Bool,(∀c,c≠cp->c≠cq->aI c=ch c)->ch cp=o->ch cq=(!o)->(aI cp=(!o)/\aI cq=(!o)\/aI cp=o/\aI cq=o)->aK m n ch=aK m n aI+1)
  (ii:∀ch:Nat->Bool,ch cp=(!o)->ch cq=o->aK m n ch+L=aK m' n' (fun i=>ch (bo hi (bo lo i)))+L') (e:Int):dF m n L 1 e=dF m' n' L' 1 e:=by
 have nc:cp<n/\cq<n:=by omega
 have yf:cp≠cq:=by omega
 have a1':=CL (fun ch=>iK m n L e ch) nc.1;have oF:=CL (fun ch=>iK m n L e (sB cp false ch)+iK m n L e (sB cp true ch)) nc.2;have fin:∀ch:Nat->Bool,(iK m n L e (sB cp false (sB cq false ch))+iK m n L e (sB cp true (sB cq false ch)))+(iK m n L e (sB cp false (sB cq true ch))+iK m n L e (sB cp true (sB cq true ch)))=iK m' n' L' e (fun i=>ch (bo hi (bo lo i))):=fun ch=>by
  have vp:∀x y,sB cp x (sB cq y ch) cp=x:=fun x y=>by unfold sB;rw[zM rfl]
  have vq:∀x y,sB cp x (sB cq y ch) cq=y:=fun x y=>by unfold sB;rw[zL (Ne.symm yf),zM rfl]
  have vo:∀x y x' y' c,c≠cp->c≠cq->sB cp x' (sB cq y' ch) c=sB cp x (sB cq y ch) c:=fun x y x' y' c g1 g2=>by unfold sB;rw[zL g1,zL g2,zL g1,zL g2]
  have k1:=oo _ _ (vo o (!o) (!o) (!o)) (vp _ _) (vq _ _) (.inl ⟨vp _ _,vq _ _⟩);have k2:=oo _ _ (vo o (!o) o o) (vp _ _) (vq _ _) (.inr ⟨vp _ _,vq _ _⟩);have k3:=ii _ (vp (!o) o) (vq (!o) o);have NF:∀i,bo hi (bo lo i)≠lo/\bo hi (bo lo i)≠hi:=E9 jK;have ND:∀x y,(fun i=>sB cp x (sB cq y ch) (bo hi (bo lo i)))=fun i=>ch (bo hi (bo lo i)):=fun x y=>funext fun i=>by
   obtain⟨g1,g2⟩:=NF i;have g3:bo hi (bo lo i)≠cp/\bo hi (bo lo i)≠cq:=by
    rcases dS with ⟨rfl,rfl⟩|⟨rfl,rfl⟩
    ·exact⟨g1,g2⟩
    ·exact⟨g2,g1⟩
   unfold sB;rw[zL g3.1,zL g3.2]
  rw[ND]at k3;have AP:∀x y,cr false (sB cp x (sB cq y ch)) n=cr false (fun i=>ch (bo hi (bo lo i))) n'+(if x then 1 else 0)+(if y then 1 else 0):=fun x y=>by
   rw[A7 x _ cp n nc.1,zh yf,A7 y _ cq n nc.2];have h0:cr false (sB cq false (sB cp false ch)) n=cr false (fun i=>ch (bo hi (bo lo i))) n':=by
    rw[hn];have h1:sB cq false (sB cp false ch)=sB hi false (sB lo false ch):=by
     rcases dS with ⟨rfl,rfl⟩|⟨rfl,rfl⟩
     ·rfl
     ·exact zh (by omega) _ _ _
    rw[h1,M5 _ hi (n'+1) (by omega)];rw[Zn jK,M5 _ lo n' (by omega)]
   rw[h0];omega
  obtain⟨z,hz⟩:∃z:Int,z=e-(n:Int)+2*(cr false (fun i=>ch (bo hi (bo lo i))) n':Nat):=⟨_,rfl⟩;have F:∀x y,iK m n L e (sB cp x (sB cq y ch))=ji (aK m n (sB cp x (sB cq y ch))+L-1) (z+2*((if x then 1 else 0)+(if y then 1 else 0))):=fun x y=>by
   rw[HM dL (by omega),AP,hz];congr 1;cases x<;>cases y<;>simp<;>omega
  have p1':=CS dL (sB cp (!o) (sB cq (!o) ch)) (by omega);have p2':=CS dL (sB cp (!o) (sB cq o ch)) (by omega);have ev:iK m' n' L' e (fun i=>ch (bo hi (bo lo i)))=ji (aK m n (sB cp (!o) (sB cq o ch))+L-1) (z+2):=by
   unfold iK;rw[zM (by omega),<-k3,hz,hn];congr 1;push_cast;omega
  rw[ev];have k4:aK m n (sB cp o (sB cq o ch))=aK m n (sB cp (!o) (sB cq (!o) ch)):=by omega
  have d1:ji (aK m n (sB cp (!o) (sB cq (!o) ch))+1+L-1) (z+2)= -ji (aK m n (sB cp (!o) (sB cq (!o) ch))+L-1) (z+4)-ji (aK m n (sB cp (!o) (sB cq (!o) ch))+L-1) z:=by
   rw[show aK m n (sB cp (!o) (sB cq (!o) ch))+1+L-1=(aK m n (sB cp (!o) (sB cq (!o) ch))+L-1)+1 by omega];show fE _ (z+2)=_;unfold fE;rw[show z+2+2=z+4 by omega,show z+2-2=z by omega]
  rw[<-k1]at d1;clear k2 k3 ev hz AP;simp only[F];cases o
  ·simp only[Bool.not_false]at d1 k4⊢;simp at d1⊢;rw[d1,k4];omega
  ·simp only[Bool.not_true]at d1 k4⊢;simp at d1⊢;rw[d1,k4];omega
 rw[CB,CB];have hs:=oI (n:=2^n) fun k _=>fin (cV k);have e1:=L7 (fun ch=>iK m' n' L' e (fun i=>ch (bo lo i))) (c:=hi) (n:=n'+1) (by omega);have e2:=L7 (fun ch=>iK m' n' L' e ch) (c:=lo) (n:=n') (by omega);rw[show n'+1+1=n by omega]at e1;dsimp only at a1' oF hs e1 e2;omega
theorem Ry{m m':List Int}{n n' L L':Nat}{p1 p2 q1 q2 lo hi:Nat}(hd:bm m n)(er:bm m' n')(hn:n=n'+2)(jK:lo<hi)(gJ:hi<n)(K:gy m p1 p2 q1 q2)(Ob:ai q1=q2/\ai p2=p1)(dS:(p1/4=lo/\q1/4=hi)\/(p1/4=hi/\q1/4=lo))
  (hm:∀x,x<4*n'->cl (cl (ae m) (af p1) (af q1)) (af p2) (af q2) (aR hi (aR lo x))=aR hi (aR lo (ae m' x)))
  (hL:L'=L+(if ae m (af p1)=af q1 then 1 else 0)+(if cl (ae m) (af p1) (af q1) (af p2)=af q2 then 1 else 0)) (e:Int):dF m n L 1 e=dF m' n' L' 1 e:=by
 obtain⟨ya,x9⟩:=Ob;have VS:q1<4*n:=by rcases dS with h|h<;>omega
 have Ok:p1<4*n:=by rcases dS with h|h<;>omega
 have dp:p2/4=p1/4:=K.pp;have dq:q2/4=q1/4:=K.qq;have Oj:p2<4*n:=by omega
 have VQ:q2<4*n:=by omega
 have a1:ae m p1=q1:=K.a1;have a2:ae m p2=q2:=K.a2;have b1:ae m q1=p1:=by rw[<-a1];exact hd.aW.inv p1 Ok
 have b2:ae m q2=p2:=by rw[<-a2];exact hd.aW.inv p2 Oj
 obtain⟨cp,sw⟩:∃c,p1/4=c:=⟨_,rfl⟩;obtain⟨cq,nA⟩:∃c,q1/4=c:=⟨_,rfl⟩;have yf:cp≠cq:=by rw[<-sw,<-nA];exact K.pq
 obtain⟨o,ho⟩:∃o,decide (p1 % 2=1)=o:=⟨_,rfl⟩;have Qe:af p2=ai (ai p2):=by unfold Sp.af ai;omega
 have Qf:af p1=ai (ai (ai p2)):=by rw[<-x9];unfold Sp.af ai;omega
 have Qd:af q1=ai (ai q1):=by unfold Sp.af ai;omega
 have Qc:af q2=ai (ai (ai q1)):=by rw[<-ya];unfold Sp.af ai;omega
 have N9:decide (p2 % 2=1)= !o:=by rw[<-ho];have:=K.pn;by_cases h:p1 % 2=1<;>by_cases h2:p2 % 2=1<;>first|omega|simp[h,h2]
 have N8:decide (q1 % 2=1)=o:=by rw[<-ho,K.par]
 obtain⟨P1,AH⟩:∃x,af p1=x:=⟨_,rfl⟩;obtain⟨P2,xB⟩:∃x,af p2=x:=⟨_,rfl⟩;obtain⟨Q1,yP⟩:∃x,af q1=x:=⟨_,rfl⟩;obtain⟨Q2,DQ⟩:∃x,af q2=x:=⟨_,rfl⟩;rw[AH,yP]at hL;rw[xB,DQ]at hL;simp only[AH,yP,xB,DQ]at hm;have Ce:P1/4=cp:=by rw[<-AH,kr];exact sw
 have DY:P2/4=cp:=by rw[<-xB,kr,dp];exact sw
 have Cd:Q1/4=cq:=by rw[<-yP,kr];exact nA
 have DX:Q2/4=cq:=by rw[<-DQ,kr,dq];exact nA
 have wQ:∀y,y/4=cp->y=p2\/y=p1\/y=P2\/y=P1:=fun y hy=>by
  have:=Rz (x:=p2) (y:=y) (by omega)
  rwa [<-Qf,AH,<-Qe,xB,x9]at this
 have wP:∀y,y/4=cq->y=q1\/y=q2\/y=Q1\/y=Q2:=fun y hy=>by
  have:=Rz (x:=q1) (y:=y) (by omega)
  rwa [<-Qc,DQ,<-Qd,yP,ya]at this
 have nP:p1≠p2/\p1≠P1/\p1≠P2/\p2≠P1/\p2≠P2/\P1≠P2:=by
  rw[<-AH,<-xB,Qe,Qf,<-x9];unfold ai;omega
 have nQ:q1≠q2/\q1≠Q1/\q1≠Q2/\q2≠Q1/\q2≠Q2/\Q1≠Q2:=by
  rw[<-yP,<-DQ,Qd,Qc,<-ya];unfold ai;omega
 have kL:∀ch:Nat->Bool,(ch cp=o->ak ch p1=p2/\ak ch p2=p1/\ak ch P1=P2/\ak ch P2=P1)/\(ch cp= !o->ak ch p2=P1/\ak ch P1=p2/\ak ch p1=P2/\ak ch P2=p1):=fun ch=>by
  obtain⟨j1,j2,j3,uG,j5,j6,j7,j8⟩:=FU (!o) p2 N9.symm;rw[Bool.not_not]at j5 j6 j7 j8;simp only[<-Qf,AH]at j1 j2 j3 uG j5 j6 j7 j8;simp only[<-Qe,xB]at j1 j2 j3 uG j5 j6 j7 j8;simp only[x9]at j1 j2 j3 uG j5 j6 j7 j8;unfold ak;rw[Ce,DY,dp,sw];refine⟨fun h=>?_,fun h=>?_⟩<;>rw[h]
  ·exact⟨j6,j5,j8,j7⟩
  ·exact⟨j1,j2,uG,j3⟩
 have Jz:∀ch:Nat->Bool,(ch cq=(!o)->ak ch q1=q2/\ak ch q2=q1/\ak ch Q1=Q2/\ak ch Q2=Q1)/\(ch cq=o->ak ch q1=Q2/\ak ch Q2=q1/\ak ch q2=Q1/\ak ch Q1=q2):=fun ch=>by
  obtain⟨j1,j2,j3,uG,j5,j6,j7,j8⟩:=FU o q1 N8.symm;simp only[<-Qc,DQ]at j1 j2 j3 uG j5 j6 j7 j8;simp only[<-Qd,yP]at j1 j2 j3 uG j5 j6 j7 j8;simp only[ya]at j1 j2 j3 uG j5 j6 j7 j8;unfold ak;rw[Cd,DX,dq,nA];refine⟨fun h=>?_,fun h=>?_⟩<;>rw[h]
  ·exact⟨j5,j6,j7,j8⟩
  ·exact⟨j1,j2,uG,j3⟩
 have jX:∀{x y:Nat},x/4=cp->y/4=cq->x≠y:=fun g1 g2 e=>yf (g1.symm.trans (by rw[e];exact g2));have uF:P1<4*n:=by omega
 have lP2:P2<4*n:=by omega
 have rT:Q1<4*n:=by omega
 have lQ2:Q2<4*n:=by omega
 have zx:∀{ch aI:Nat->Bool},(∀c,c≠cp->c≠cq->aI c=ch c)->∀x,x/4≠cp->x/4≠cq->ak aI x=ak ch x:=fun {ch aI} h x h1 h2=>by unfold ak;rw[h _ h1 h2]
 have oo:∀{ch aI:Nat->Bool},(∀c,c≠cp->c≠cq->aI c=ch c)->ch cp=o->ch cq=(!o)->(aI cp=(!o)/\aI cq=(!o)\/aI cp=o/\aI cq=o)->aK m n ch=aK m n aI+1:=fun {ch aI} h h1 h2 h3=>by
  obtain⟨s1,s2,s3,s4⟩:=(kL ch).1 h1;obtain⟨t1,t2,t3,t4⟩:=(Jz ch).1 h2;have inl:∀x,cI p1 p2 q1 q2 x->x<4*n:=fun x hx=>hx.all (· <4*n) Ok Oj VS VQ;have vF:∀x,cI p1 p2 q1 q2 x->cI p1 p2 q1 q2 (ae m x):=fun x hx=>hx.all (fun x=>cI p1 p2 q1 q2 (ae m x)) (by rw[a1];exact .c) (by rw[a2];exact .d) (by rw[b1];exact .a) (by rw[b2];exact .b)
  have Ds:∀x,x<4*n->(cI p1 p2 q1 q2 x↔cI p1 p2 q1 q2 (ae m x)):=fun x hx=>⟨vF x,fun h=>by have:=vF _ h;rwa [hd.aW.inv x hx]at this⟩;have P:=kJ hd ch;have P':=kJ hd aI;have vD:∀x,cI p1 p2 q1 q2 x->cI p1 p2 q1 q2 (ak ch x):=fun x hx=>hx.all (fun x=>cI p1 p2 q1 q2 (ak ch x)) (by rw[s1];exact .b) (by rw[s2];exact .a) (by rw[t1];exact .d) (by rw[t2];exact .c)
  have FQ:∀x,x<4*n->(cI p1 p2 q1 q2 x↔cI p1 p2 q1 q2 (ak ch x)):=fun x hx=>⟨vD x,fun h=>by have:=vD _ h;rwa [P.jj x hx]at this⟩;have one:∀x,cI p1 p2 q1 q2 x->Ci (ae m) (ak ch) p1 x:=fun x hx=>by
   have c1:Ci (ae m) (ak ch) p1 p2:=by have:=Ci.iD (al:=ae m) (jn:=ak ch) p1;rwa [s1]at this
   have c2:Ci (ae m) (ak ch) p1 q1:=by have:=Ci.al1 (al:=ae m) (jn:=ak ch) p1;rwa [a1]at this
   have c3:Ci (ae m) (ak ch) p1 q2:=by have:=c1.mate;rwa [a2]at this
   exact hx.all _ (.refl _) c1 c2 c3
  have VP:∀{x},x≠p1->x≠p2->x/4=cp->¬cI p1 p2 q1 q2 x:=fun {x} g1 g2 g3=>cI.no g1 g2 (jX g3 nA) (jX g3 (dq.trans nA));have VO:∀{x},x≠q1->x≠q2->x/4=cq->¬cI p1 p2 q1 q2 x:=fun {x} g1 g2 g3=>cI.no (jX sw g3).symm (jX (dp.trans sw) g3).symm g1 g2;obtain⟨n1,n2,n3,n4,n5,n6⟩:=nP;obtain⟨k1,k2,k3,k4,k5,k6⟩:=nQ;rcases h3 with ⟨h4,h5⟩|⟨h4,h5⟩
  ·obtain⟨x1,x2,x3,x4⟩:=(kL aI).2 h4;obtain⟨y1,y2,y3,y4⟩:=(Jz aI).1 h5;have r1:Ci (ae m) (ak aI) P1 p2:=by have:=Ci.iD (al:=ae m) (jn:=ak aI) P1;rwa [x2]at this
   have r2:Ci (ae m) (ak aI) P1 q2:=by have:=r1.mate;rwa [a2]at this
   have r3:Ci (ae m) (ak aI) P1 q1:=by have:=r2.join;rwa [y2]at this
   have r4:Ci (ae m) (ak aI) P1 p1:=by have:=r3.mate;rwa [b1]at this
   refine L6 hd (J:=cI p1 p2 q1 q2) (u:=P1) (v:=P2) (j0:=p1) uF (VP n2.symm n4.symm Ce) (VP n3.symm n5.symm DY) inl .a Ds FQ s3 s4 one (fun x hx hi g1 g2=>?_) (by rw[x2];exact .b) (by rw[x4];exact .a) (fun x hx=>hx.all (fun x=>ak aI x=P1\/ak aI x=P2\/cI p1 p2 q1 q2 (ak aI x)) (.inr (.inl x3)) (.inl x1) (by rw[y1];exact .inr (.inr .d)) (by rw[y2];exact .inr (.inr .c))) (fun x hx=>hx.all _ r4 r1 r3 r2)
   ·by_cases e1:x/4=cp
    ·rcases wQ x e1 with g|g|g|g
     ·exact zzA (.inr (.inl g)) hi
     ·exact zzA (.inl g) hi
     ·exact zzA g g2
     ·exact zzA g g1
    by_cases e2:x/4=cq
    ·rcases wP x e2 with g|g|g|g
     ·exact zzA (.inr (.inr (.inl g))) hi
     ·exact zzA (.inr (.inr (.inr g))) hi
     ·rw[g,t3,y3]
     ·rw[g,t4,y4]
    exact zx h x e1 e2
  ·obtain⟨x1,x2,x3,x4⟩:=(kL aI).1 h4;obtain⟨y1,y2,y3,y4⟩:=(Jz aI).2 h5;have r1:Ci (ae m) (ak aI) Q1 q2:=by have:=Ci.iD (al:=ae m) (jn:=ak aI) Q1;rwa [y4]at this
   have r2:Ci (ae m) (ak aI) Q1 p2:=by have:=r1.mate;rwa [b2]at this
   have r3:Ci (ae m) (ak aI) Q1 p1:=by have:=r2.join;rwa [x2]at this
   have r4:Ci (ae m) (ak aI) Q1 q1:=by have:=r3.mate;rwa [a1]at this
   refine L6 hd (J:=cI p1 p2 q1 q2) (u:=Q1) (v:=Q2) (j0:=p1) rT (VO k2.symm k4.symm Cd) (VO k3.symm k5.symm DX) inl .a Ds FQ t3 t4 one (fun x hx hi g1 g2=>?_) (by rw[y4];exact .d) (by rw[y2];exact .c) (fun x hx=>hx.all (fun x=>ak aI x=Q1\/ak aI x=Q2\/cI p1 p2 q1 q2 (ak aI x)) (by rw[x1];exact .inr (.inr .b)) (by rw[x2];exact .inr (.inr .a)) (.inr (.inl y1)) (.inl y3)) (fun x hx=>hx.all _ r3 r2 r4 r1)
   ·by_cases e1:x/4=cp
    ·rcases wQ x e1 with g|g|g|g
     ·exact zzA (.inr (.inl g)) hi
     ·exact zzA (.inl g) hi
     ·rw[g,s4,x4]
     ·rw[g,s3,x3]
    by_cases e2:x/4=cq
    ·rcases wP x e2 with g|g|g|g
     ·exact zzA (.inr (.inr (.inl g))) hi
     ·exact zzA (.inr (.inr (.inr g))) hi
     ·exact zzA g g1
     ·exact zzA g g2
    exact zx h x e1 e2
 have ii:∀{ch:Nat->Bool},ch cp=(!o)->ch cq=o->aK m n ch+L=aK m' n' (fun i=>ch (bo hi (bo lo i)))+L':=fun {ch} h1 h2=>by
  obtain⟨s1,s2,s3,s4⟩:=(kL ch).2 h1;obtain⟨t1,t2,t3,t4⟩:=(Jz ch).2 h2;have P0:wW (4*n) (fun x=>x<4*n) (ae m) (ak ch):=⟨fun x h=>h,fun x h=>⟨hd.aW.lt x h,hd.aW.inv x h,hd.aW.ne x h⟩,fun x h=>⟨(kJ hd ch).jl x h,(kJ hd ch).jj x h⟩⟩;obtain⟨n1,n2,n3,n4,n5,n6⟩:=nP;obtain⟨k1,k2,k3,k4,k5,k6⟩:=nQ;have KH:p1/4=cp:=sw;have Qg:p2/4=cp:=dp.trans sw;have KG:q1/4=cq:=nA
  have KF:q2/4=cq:=dq.trans nA;have inv:=hd.aW.inv;have aQ:∀{x y:Nat},x<4*n->ae m x=y->x=ae m y:=fun hx g=>by rw[<-g,inv _ hx]
  have NN:ae m P1=Q1\/(¬cI P1 p2 q2 Q1 (ae m P1)/\ ¬cI P1 p2 q2 Q1 (ae m Q1)):=by
   by_cases g:ae m P1=Q1
   ·exact .inl g
   refine .inr ⟨fun hs=>?_,fun hs=>?_⟩
   ·rcases hs with h|h|h|h
    ·exact hd.aW.ne _ uF h
    ·have:=aQ uF h;rw[a2]at this;exact jX Ce KF this
    ·have:=aQ uF h;rw[b2]at this;exact n4 this.symm
    ·exact g h
   ·rcases hs with h|h|h|h
    ·exact g (aQ rT h).symm
    ·have:=aQ rT h;rw[a2]at this;exact k4 this.symm
    ·have:=aQ rT h;rw[b2]at this;exact jX Qg Cd this.symm
    ·exact hd.aW.ne _ rT h
  have Df:=M6 (S:=cI P1 p2 q2 Q1) P0 (a:=P1) (b:=Q1) (fun x hx=>hx.all (· <4*n) uF Oj VQ rT) .a .d (jX Ce Cd)
   (fun x hx=>hx.all (fun x=>cI P1 p2 q2 Q1 (ak ch x)) (by rw[s2];exact .b) (by rw[s1];exact .a) (by rw[t3];exact .d) (by rw[t4];exact .c))
   (fun x hx=>hx.all (fun x=>x≠P1->x≠Q1->cI P1 p2 q2 Q1 (ae m x)) (fun g1 _=>zzA rfl g1) (fun _ _=>by rw[a2];exact .c) (fun _ _=>by rw[b2];exact .b) (fun _ g2=>zzA rfl g2))
   (fun x hx=>by
    have r1:Ci (ae m) (ak ch) P1 p2:=by have:=Ci.iD (al:=ae m) (jn:=ak ch) P1;rwa [s2]at this
    have r2:Ci (ae m) (ak ch) P1 q2:=by have:=r1.mate;rwa [a2]at this
    have r3:Ci (ae m) (ak ch) P1 Q1:=by have:=r2.join;rwa [t3]at this
    exact hx.all _ (.refl _) r1 r2 r3) NN
  obtain⟨Hz,NG⟩:=Df
  have u2:∀x,cI P2 p1 q1 Q2 x->x<4*n/\ ¬cI P1 p2 q2 Q1 x:=fun x hx=>hx.all (fun x=>x<4*n/\ ¬cI P1 p2 q2 Q1 x)
   ⟨lP2,cI.no n6.symm n5.symm (jX DY KF) (jX DY Cd)⟩ ⟨Ok,cI.no n2 n1 (jX KH KF) (jX KH Cd)⟩ ⟨VS,cI.no (jX Ce KG).symm (jX Qg KG).symm k1 k2⟩ ⟨lQ2,cI.no (jX Ce DX).symm (jX Qg DX).symm k5.symm k6.symm⟩
  have KI:cl (ae m) P1 Q1 p1=q1:=by
   rw[CE];by_cases g:ae m P1=Q1
   ·rw[zM g,a1]
   ·rw[zL g,zL (fun e=>by have:=aQ uF e.symm;rw[a1]at this;exact jX Ce KG this),zL (fun e=>by have:=aQ rT e.symm;rw[a1]at this;exact k2 this.symm),a1]
  have Qi:cl (ae m) P1 Q1 q1=p1:=by
   rw[CE];by_cases g:ae m P1=Q1
   ·rw[zM g,b1]
   ·rw[zL g,zL (fun e=>by have:=aQ uF e.symm;rw[b1]at this;exact n2 this.symm),zL (fun e=>by have:=aQ rT e.symm;rw[b1]at this;exact jX KH Cd this.symm),b1]
  have so2:cl (ae m) P1 Q1 P2=Q2\/(¬cI P2 p1 q1 Q2 (cl (ae m) P1 Q1 P2)/\ ¬cI P2 p1 q1 Q2 (cl (ae m) P1 Q1 Q2)):=by
   by_cases g:cl (ae m) P1 Q1 P2=Q2
   ·exact .inl g
   have iP:=Hz.al P2 (u2 P2 .a);have iQ:=Hz.al Q2 (u2 Q2 .d);refine .inr ⟨fun hs=>?_,fun hs=>?_⟩
   ·rcases hs with h|h|h|h
    ·exact iP.2.2 h
    ·have:=iP.2.1;rw[h,KI]at this;exact jX DY KG this.symm
    ·have:=iP.2.1;rw[h,Qi]at this;exact n3 this
    ·exact g h
   ·rcases hs with h|h|h|h
    ·have:=iQ.2.1;rw[h]at this;exact g this
    ·have:=iQ.2.1;rw[h,KI]at this;exact k3 this
    ·have:=iQ.2.1;rw[h,Qi]at this;exact jX KH DX this
    ·exact iQ.2.2 h
  have De:=M6 (S:=cI P2 p1 q1 Q2) Hz (a:=P2) (b:=Q2) u2 .a .d (jX DY DX)
   (fun x hx=>hx.all (fun x=>cI P2 p1 q1 Q2 (ak ch x)) (by rw[s4];exact .b) (by rw[s3];exact .a) (by rw[t1];exact .d) (by rw[t2];exact .c))
   (fun x hx=>hx.all (fun x=>x≠P2->x≠Q2->cI P2 p1 q1 Q2 (cl (ae m) P1 Q1 x)) (fun g1 _=>zzA rfl g1) (fun _ _=>by rw[KI];exact .c) (fun _ _=>by rw[Qi];exact .b) (fun _ g2=>zzA rfl g2))
   (fun x hx=>by
    have r1:Ci (cl (ae m) P1 Q1) (ak ch) P2 p1:=by have:=Ci.iD (al:=cl (ae m) P1 Q1) (jn:=ak ch) P2;rwa [s4]at this
    have r2:Ci (cl (ae m) P1 Q1) (ak ch) P2 q1:=by have:=r1.mate;rwa [KI]at this
    have r3:Ci (cl (ae m) P1 Q1) (ak ch) P2 Q2:=by have:=r2.join;rwa [t1]at this
    exact hx.all _ (.refl _) r1 r2 r3) so2
  obtain⟨PU2,tr2⟩:=De;have hU:∀x,((x<4*n/\ ¬cI P1 p2 q2 Q1 x)/\ ¬cI P2 p1 q1 Q2 x)↔(x<4*n/\x/4≠lo/\x/4≠hi):=fun x=>by
   have hc:(x/4≠lo/\x/4≠hi)↔(x/4≠cp/\x/4≠cq):=by
    rcases dS with ⟨g1,g2⟩|⟨g1,g2⟩<;>rw[<-g1,<-g2,sw,nA];exact And.comm
   rw[and_assoc,hc];refine⟨fun ⟨a,b,c⟩=>⟨a,fun g=>?_,fun g=>?_⟩,fun ⟨a,b,c⟩=>⟨a,cI.no ?_ ?_ ?_ ?_,cI.no ?_ ?_ ?_ ?_⟩⟩
   ·rcases wQ x g with h|h|h|h
    ·exact b (.inr (.inl h))
    ·exact c (.inr (.inl h))
    ·exact c (.inl h)
    ·exact b (.inl h)
   ·rcases wP x g with h|h|h|h
    ·exact c (.inr (.inr (.inl h)))
    ·exact b (.inr (.inr (.inl h)))
    ·exact b (.inr (.inr (.inr h)))
    ·exact c (.inr (.inr (.inr h)))
   all_goals (intro h;rw[h]at b c;first|exact b ‹_›|exact c ‹_›)
  obtain⟨l,hl⟩:=Tr.exists (Ci.eqv (kJ er (fun i=>ch (bo hi (bo lo i))))) (fun _=>True);have e8:∀x,aR hi (aR lo x)/4=bo hi (bo lo (x/4)):=fun x=>by rw[rK,rK]
  have t0:=UZ (up:=fun x=>aR hi (aR lo x)) PU2 (fun x y g=>CO (CO g)) (fun x hx=>(hU _).2 (by rw[hn];exact Fa jK (by rw[hn]at gJ;exact gJ) hx)) (fun z hz=>Zm jK (by rw[<-hn];exact gJ) (by rw[<-hn];exact(hU z).1 hz)) (fun x hx=>⟨er.aW.lt x hx,hm x hx⟩) (fun x hx=>⟨(kJ er _).jl x hx,by
   show ak ch (aR hi (aR lo x))=aR hi (aR lo (ak _ x));unfold ak;rw[e8,Le,Le]⟩) hl
  have t3':=NG _ (tr2 _ t0);have e1:=CF hd ch (t3'.aZ (fun x hx=>⟨fun _=>trivial,fun _=>hx⟩) (fun _ _ _ _ _ _=>Iff.rfl));have e2:=CF er (fun i=>ch (bo hi (bo lo i))) hl;rw[e1,e2,hL];simp only[zG,List.length_map]
  split<;>split<;>simp<;>omega
 exact y3i ⟨hd.prd.ok,hd.prd.inv,hd.ne⟩ hn jK gJ (by
  rcases dS with ⟨h1,h2⟩|⟨h1,h2⟩
  ·exact .inl ⟨sw.symm.trans h1,nA.symm.trans h2⟩
  ·exact .inr ⟨sw.symm.trans h1,nA.symm.trans h2⟩) (fun ch aI=>oo) (fun ch=>ii) e
end Hs
set_option maxHeartbeats 1000000
namespace Hs
open Sp (cb ai bJ aS ae af bI bm Tr dG bE)
theorem y3j{m m':List Int}{n n' L L':Nat}{c:Nat}{b:Bool}(dL:jo m n)(hn:n=n'+1)(hc:c<n)
  (oo:∀ch aI:Nat->Bool,(∀d,d≠c->aI d=ch d)->ch c=b->aI c=(!b)->aK m n ch=aK m n aI+1)
  (ii:∀ch:Nat->Bool,ch c=(!b)->aK m n ch+L=aK m' n' (fun i=>ch (bo c i))+L') (e:Int):dF m n L 1 e= -dF m' n' L' 1 (e-3*(if b then-1 else 1)):=by
 have a1:=CL (fun ch=>iK m n L e ch) hc;have fin:∀ch:Nat->Bool,iK m n L e (sB c false ch)+iK m n L e (sB c true ch)= -iK m' n' L' (e-3*(if b then-1 else 1)) (fun i=>ch (bo c i)):=fun ch=>by
  have vp:∀x,sB c x ch c=x:=fun x=>by unfold sB;rw[zM rfl]
  have vo:∀x x' d,d≠c->sB c x' ch d=sB c x ch d:=fun x x' d g=>by unfold sB;rw[zL g,zL g]
  have k1:=oo _ _ (vo b (!b)) (vp _) (vp _);have k3:=ii _ (vp (!b));have NF:∀i,bo c i≠c:=fun i=>by unfold bo;split<;>omega
  have ND:∀x,(fun i=>sB c x ch (bo c i))=fun i=>ch (bo c i):=fun x=>funext fun i=>by
   unfold sB;rw[zL (NF i)]
  rw[ND]at k3;have AP:∀x,cr false (sB c x ch) n=cr false (fun i=>ch (bo c i)) n'+(if x then 1 else 0):=fun x=>by
   rw[A7 x _ c n hc];have h0:cr false (sB c false ch) n=cr false (fun i=>ch (bo c i)) n':=by
    rw[hn,M5 _ c n' (by omega)]
   rw[h0]
  obtain⟨z,hz⟩:∃z:Int,z=e-(n:Int)+2*(cr false (fun i=>ch (bo c i)) n':Nat):=⟨_,rfl⟩;have F:∀x,iK m n L e (sB c x ch)=ji (aK m n (sB c x ch)+L-1) (z+2*(if x then 1 else 0)):=fun x=>by
   rw[HM dL (by omega),AP,hz];congr 1;cases x<;>simp<;>omega
  have p1':=CS dL (sB c (!b) ch) (by omega);have ev:iK m' n' L' (e-3*(if b then-1 else 1)) (fun i=>ch (bo c i))=ji (aK m n (sB c (!b) ch)+L-1) (z+1-3*(if b then-1 else 1)):=by
   unfold iK;rw[zM (by omega),<-k3,hz,hn];congr 1;push_cast;omega
  rw[ev];have d1:∀y,ji (aK m n (sB c b ch)+L-1) y= -ji (aK m n (sB c (!b) ch)+L-1) (y+2)-ji (aK m n (sB c (!b) ch)+L-1) (y-2):=fun y=>by
   rw[k1,show aK m n (sB c (!b) ch)+1+L-1=(aK m n (sB c (!b) ch)+L-1)+1 by omega];rfl
  rw[F,F];cases b
  ·simp only[Bool.not_false]at d1⊢;rw[d1];simp;rw[show z+1-3=z-2 by omega];omega
  ·simp only[Bool.not_true]at d1⊢;rw[d1];simp;rw[show z+1+3=z+2+2 by omega];omega
 rw[CB,CB];have hs:=oI (n:=2^n) fun k _=>fin (cV k);have e1:=L7 (fun ch=>iK m' n' L' (e-3*(if b then-1 else 1)) ch) (c:=c) (n:=n') (by omega);have e2:sm (fun k=> -iK m' n' L' (e-3*(if b then-1 else 1)) (fun i=>cV k (bo c i))) (2^n)= -sm (fun k=>iK m' n' L' (e-3*(if b then-1 else 1)) (fun i=>cV k (bo c i))) (2^n):=by
  have:=Lp (-1) (fun k=>iK m' n' L' (e-3*(if b then-1 else 1)) (fun i=>cV k (bo c i))) (2^n)
  simp only[Int.neg_one_mul]at this;exact this
 rw[<-hn]at e1;dsimp only at a1 hs e1;omega
theorem Zl{c n' x:Nat}(hc:c<n'+1)(hx:x<4*n'):aR c x<4*(n'+1)/\aR c x/4≠c:=by
 unfold aR;split<;>omega
theorem y7b{c n' z:Nat}(hc:c<n'+1)(this:z<4*(n'+1)/\z/4≠c):∃x,x<4*n'/\aR c x=z:=by
 by_cases g1:z/4<c
 ·exact⟨z,by omega,zM g1⟩
 ·exact⟨z-4,by omega,by unfold aR;rw[zL (show¬(z-4)/4<c by omega)];omega⟩
theorem QQ(b:Bool){p:Nat}:dC (!b) p=af (dC b p)/\dC b (af p)=af (dC b p):=by
 obtain⟨j1,j2,j3,uG,j5,j6,j7,j8⟩:=FU (decide (p % 2=1)) p rfl;have e1:af p=ai (ai p):=xN p;have e2:af (ai p)=ai (ai (ai p)):=xN _;have e3:af (ai (ai (ai p)))=ai p:=by rw[xN,NP]
 by_cases h:b=decide (p % 2=1)
 ·subst h;rw[j1,j5,e3,e1,j3];exact⟨rfl,rfl⟩
 ·have hb:b= !decide (p % 2=1):=by cases b<;>cases hh:decide (p % 2=1)<;>simp_all
  rw[hb,Bool.not_not,j1,j5,e2,e1,j7];exact⟨rfl,rfl⟩
theorem Sz{m m':List Int}{n n' L L':Nat}{p q c:Nat}{b:Bool}(hd:bm m n)(er:bm m' n')(hn:n=n'+1)(hc:c<n)(K:kj m c p q)(hb:dC b p=q)
  (hm:∀x,x<4*n'->cl (ae m) (af p) (af q) (aR c x)=aR c (ae m' x))
  (hL:L'=L+(if ae m (af p)=af q then 1 else 0)) (e:Int):dF m n L 1 e= -dF m' n' L' 1 (e-3*(if b then-1 else 1)):=by
 have dp:p/4=c:=K.pc;have dq:q/4=c:=K.qc;have lp:p<4*n:=by omega
 have lq:q<4*n:=by omega
 have D1:ae m p=q:=K.pq;have Cm:ae m q=p:=by rw[<-D1];exact hd.aW.inv p lp
 have jX:q≠p:=K.ne;obtain⟨P,hP⟩:∃x,af p=x:=⟨_,rfl⟩;obtain⟨Q,hQ⟩:∃x,af q=x:=⟨_,rfl⟩;have FB:q≠P:=by rw[<-hP];exact K.no
 have dP:P/4=c:=by rw[<-hP,kr];exact dp
 have dQ:Q/4=c:=by rw[<-hQ,kr];exact dq
 have lP:P<4*n:=by omega
 have lQ:Q<4*n:=by omega
 have Oh:p≠P:=by rw[<-hP];unfold Sp.af;omega
 have Of:q≠Q:=by rw[<-hQ];unfold Sp.af;omega
 have nPQ:P≠Q:=fun g=>jX (by rw[<-hP,<-hQ]at g;have:=congrArg af g;rw[n8,n8]at this;exact this.symm);have Og:p≠Q:=fun g=>FB (by rw[<-hP,g,<-hQ,n8]);rw[hP,hQ]at hL;simp only[hP,hQ]at hm;have only:∀y,y/4=c->y=p\/y=q\/y=P\/y=Q:=fun y hy=>by
  rw[<-hP,<-hQ];rw[<-hP]at FB;unfold Sp.af at*;omega
 obtain⟨x1,x2⟩:=QQ b (p:=p);obtain⟨x3,x4⟩:=QQ b (p:=q);have oz:dC b q=p:=by rw[<-hb];exact IV b p
 rw[hb,hP,hQ]at x2;rw[hb,hQ]at x1;rw[oz,hQ,hP]at x4;rw[oz,hP]at x3;have x5:dC (!b) Q=p:=by rw[<-x1];exact IV (!b) p
 have x6:dC (!b) P=q:=by rw[<-x3];exact IV (!b) q
 have st:∀(ch:Nat->Bool) (x:Nat),x/4=c->ak ch x=dC (ch c) x:=fun ch x h=>by unfold ak;rw[h]
 refine y3j ⟨hd.prd.ok,hd.prd.inv,hd.ne⟩ hn hc (fun ch aI ho h1 h2=>?_) (fun ch h1=>?_) e
 ·have s1:=st ch p dp;have s2:=st ch q dq;have s3:=st ch P dP;have s4:=st ch Q dQ;have t1:=st aI p dp;have t2:=st aI q dq;have t3:=st aI P dP;have t4:=st aI Q dQ;rw[h1]at s1 s2 s3 s4;rw[h2]at t1 t2 t3 t4;rw[hb]at s1;rw[oz]at s2;rw[x2]at s3;rw[x4]at s4;rw[x1]at t1;rw[x3]at t2;rw[x6]at t3;rw[x5]at t4;have inl:∀x,cI p q p q x->x<4*n:=fun x hx=>hx.all (· <4*n) lp lq lp lq
  have vF:∀x,cI p q p q x->cI p q p q (ae m x):=fun x hx=>hx.all (fun x=>cI p q p q (ae m x)) (by rw[D1];exact .b) (by rw[Cm];exact .a) (by rw[D1];exact .b) (by rw[Cm];exact .a);have vD:∀x,cI p q p q x->cI p q p q (ak ch x):=fun x hx=>hx.all (fun x=>cI p q p q (ak ch x)) (by rw[s1];exact .b) (by rw[s2];exact .a) (by rw[s1];exact .b) (by rw[s2];exact .a)
  have T:=kJ hd ch;have r1:Ci (ae m) (ak aI) P q:=by have:=Ci.iD (al:=ae m) (jn:=ak aI) P;rwa [t3]at this
  have r2:Ci (ae m) (ak aI) P p:=by have:=r1.mate;rwa [Cm]at this
  have c1:Ci (ae m) (ak ch) p q:=by have:=Ci.iD (al:=ae m) (jn:=ak ch) p;rwa [s1]at this
  refine L6 hd (J:=cI p q p q) (u:=P) (v:=Q) (j0:=p) lP (cI.no Oh.symm FB.symm Oh.symm FB.symm) (cI.no Og.symm Of.symm Og.symm Of.symm) inl .a (fun x hx=>⟨vF x,fun h=>by have:=vF _ h;rwa [hd.aW.inv x hx]at this⟩) (fun x hx=>⟨vD x,fun h=>by have:=vD _ h;rwa [T.jj x hx]at this⟩) s3 s4 (fun x hx=>hx.all _ (.refl _) c1 (.refl _) c1)
   (fun x hx hi g1 g2=>?_) (by rw[t3];exact .b) (by rw[t4];exact .a) (fun x hx=>hx.all (fun x=>ak aI x=P\/ak aI x=Q\/cI p q p q (ak aI x)) (.inr (.inl t1)) (.inl t2) (.inr (.inl t1)) (.inl t2)) (fun x hx=>hx.all _ r2 r1 r2 r1)
  by_cases g:x/4=c
  ·rcases only x g with h|h|h|h
   ·exact zzA (.inl h) hi
   ·exact zzA (.inr (.inl h)) hi
   ·exact zzA h g1
   ·exact zzA h g2
  ·unfold ak;rw[ho _ g]
 ·have t1:=st ch p dp;have t2:=st ch q dq;have t3:=st ch P dP;have t4:=st ch Q dQ;rw[h1]at t1 t2 t3 t4;rw[x1]at t1;rw[x3]at t2;rw[x6]at t3;rw[x5]at t4;have P0:wW (4*n) (fun x=>x<4*n) (ae m) (ak ch):=⟨fun x h=>h,fun x h=>⟨hd.aW.lt x h,hd.aW.inv x h,hd.aW.ne x h⟩,fun x h=>⟨(kJ hd ch).jl x h,(kJ hd ch).jj x h⟩⟩
  have aQ:∀{x y:Nat},x<4*n->ae m x=y->x=ae m y:=fun hx g=>by rw[<-g,hd.aW.inv _ hx]
  have NN:ae m P=Q\/(¬cI P q p Q (ae m P)/\ ¬cI P q p Q (ae m Q)):=by
   by_cases g:ae m P=Q
   ·exact .inl g
   refine .inr ⟨cI.no (hd.aW.ne _ lP) (fun h=>?_) (fun h=>?_) g,cI.no (fun h=>g (aQ lQ h).symm) (fun h=>?_) (fun h=>?_) (hd.aW.ne _ lQ)⟩
   ·have:=aQ lP h;rw[Cm]at this;exact Oh this.symm
   ·have:=aQ lP h;rw[D1]at this;exact FB this.symm
   ·have:=aQ lQ h;rw[Cm]at this;exact Og this.symm
   ·have:=aQ lQ h;rw[D1]at this;exact Of this.symm
  obtain⟨Hz,NG⟩:=M6 (S:=cI P q p Q) P0 (a:=P) (b:=Q) (fun x hx=>hx.all (· <4*n) lP lq lp lQ) .a .d nPQ
   (fun x hx=>hx.all (fun x=>cI P q p Q (ak ch x)) (by rw[t3];exact .b) (by rw[t2];exact .a) (by rw[t1];exact .d) (by rw[t4];exact .c))
   (fun x hx=>hx.all (fun x=>x≠P->x≠Q->cI P q p Q (ae m x)) (fun g1 _=>zzA rfl g1) (fun _ _=>by rw[Cm];exact .c) (fun _ _=>by rw[D1];exact .b) (fun _ g2=>zzA rfl g2))
   (fun x hx=>by
    have r1:Ci (ae m) (ak ch) P q:=by have:=Ci.iD (al:=ae m) (jn:=ak ch) P;rwa [t3]at this
    have r2:Ci (ae m) (ak ch) P p:=by have:=r1.mate;rwa [Cm]at this
    have r3:Ci (ae m) (ak ch) P Q:=by have:=r2.join;rwa [t1]at this
    exact hx.all _ (.refl _) r1 r2 r3) NN
  have hU:∀x,(x<4*n/\ ¬cI P q p Q x)↔(x<4*n/\x/4≠c):=fun x=>by
   refine⟨fun ⟨a,b⟩=>⟨a,fun g=>?_⟩,fun ⟨a,b⟩=>⟨a,cI.no ?_ ?_ ?_ ?_⟩⟩
   ·rcases only x g with h|h|h|h
    ·exact b (.inr (.inr (.inl h)))
    ·exact b (.inr (.inl h))
    ·exact b (.inl h)
    ·exact b (.inr (.inr (.inr h)))
   all_goals (intro h;rw[h]at b;exact b ‹_›)
  obtain⟨l,hl⟩:=Tr.exists (Ci.eqv (kJ er (fun i=>ch (bo c i)))) (fun _=>True);have t0:=UZ (up:=fun x=>aR c x) Hz (fun x y g=>CO g) (fun x hx=>(hU _).2 (by rw[hn];exact Zl (by rw[<-hn];exact hc) hx)) (fun z hz=>y7b (by rw[<-hn];exact hc) (by rw[<-hn];exact(hU z).1 hz)) (fun x hx=>⟨er.aW.lt x hx,hm x hx⟩) (fun x hx=>⟨(kJ er _).jl x hx,by
   show ak ch (aR c x)=aR c (ak _ x);unfold ak;rw[rK,Le]⟩) hl
  have e1:=CF hd ch ((NG _ t0).aZ (fun x hx=>⟨fun _=>trivial,fun _=>hx⟩) (fun _ _ _ _ _ _=>Iff.rfl));have e2:=CF er (fun i=>ch (bo c i)) hl;rw[e1,e2,hL];simp only[zG,List.length_map]
  split<;>simp<;>omega
section
variable{s m s' m':List Int}{L L':Int}{k:Nat}{g:Int}
theorem QP(hv:bG s m L=true){c p q:Nat}(hc:c<s.length)(K:kj m c p q):dC (s.getD c 0== -1) p=q/\(if (s.getD c 0== -1)=true then-1 else 1)=s.getD c 0:=by
 have v:=gP hv;have hs:=v.sg c hc;have dp:=K.pc;have dq:=K.qc;have lp:p<4*s.length:=by omega
 have ho:=(sL v lp).2.2;rw[K.pq]at ho;have n1:=K.ne;have n2:=K.no;unfold aB at ho;rw[show ((p:Int)/4).toNat=c by omega,show ((q:Int)/4).toNat=c by omega]at ho;unfold Sp.af at n2;unfold dC;obtain⟨i,hi,rfl⟩:∃i,i<4/\p=4*c+i:=⟨p % 4,by omega,by omega⟩;obtain⟨j,hj,rfl⟩:∃j,j<4/\q=4*c+j:=⟨q % 4,by omega,by omega⟩
 rw[show ((4*c+i:Nat):Int)% 4=(i:Nat) by omega,show ((4*c+j:Nat):Int)% 4=(j:Nat) by omega]at ho;rw[show (4*c+i)% 4=i by omega,show (4*c+i)% 2=i % 2 by omega]
 rcases (show i=0\/i=1\/i=2\/i=3 by omega) with rfl|rfl|rfl|rfl<;>rcases (show j=0\/j=1\/j=2\/j=3 by omega) with rfl|rfl|rfl|rfl<;>rcases hs with h|h<;>rw[h]at ho⊢ <;>first|(exfalso;revert ho;decide)|(exfalso;omega)|(refine⟨?_,by decide⟩;simp)
theorem Bp{Ln Lm:Nat}(hv:bG s m Ln=true)(h:gN s m Ln k g s' m' Lm)(e:Int):
  (k=1->dF m' s'.length Lm 1 e= -dF m s.length Ln 1 (e-3*g))/\(k=2->dF m s.length Ln 1 e= -dF m' s'.length Lm 1 (e-3*g))/\(k≠1->k≠2->dF m' s'.length Lm 1 e=dF m s.length Ln 1 e):=by
 have kO:=oi hv h;have hd:=(Sp.aE hv).1;have er:=(Sp.aE kO).1;rcases (show k=1\/k=3\/k≠1/\k≠3 by omega) with rfl|rfl|⟨n1,n3⟩
 ·refine⟨fun _=>?_,fun h=>by omega,fun h=>zzA rfl h⟩;obtain⟨_,i0,o0,i1,o1,j,K,rfl,E,hL⟩:=SG hv h;have ij:(s++[g]).length=s.length+1:=by simp
  have hl:=K.l;have e0:=K.p0;have e1:=K.p1;have e2:=K.par;have op:af (4*s.length+o0)=4*s.length+i0:=by unfold Sp.af;omega
  have oq:af (4*s.length+i1)=4*s.length+o1:=by unfold Sp.af;omega
  have Kk:kj m' s.length (4*s.length+o0) (4*s.length+i1):=⟨by omega,by omega,E.a0,by omega,by rw[op];omega⟩;obtain⟨hb,hw⟩:=QP kO (by omega) Kk;have up:∀x,x<4*s.length->aR s.length x=x:=fun x hx=>zM (by omega);have r:=Sz er hd ij (by omega) Kk hb (fun x hx=>by
   rw[up x hx,up _ (hd.aW.lt x hx),op,oq];exact E.cl x hx) (L:=Lm) (L':=Ln) (by rw[op,oq,E.k];omega) e
  rw[hw,Sp.cL _ _ _ (zA _),Nat.sub_self]at r;exact r
 ·refine⟨fun h=>by omega,fun h=>by omega,fun _ _=>?_⟩;obtain⟨_,a,b,PE,PN,PW,PS,QE,QN,QW,QS,fX,fY,j,K,rfl,E,hL⟩:=SF hv h;have ij:(s++[a,b]).length=s.length+2:=by simp
  obtain⟨l1,l2,l3,l4,l5,l6,l7,l8,l9,l10,nk,nj⟩:=K.l;obtain⟨VH,Dh,VG,VF⟩:=Ft K s.length;obtain⟨q1,q2,q3⟩:=Zx K;have r1:=K.r1;have r2:=K.r2;have o3:=K.o3;have d1:(4*s.length+PE)/4=s.length:=by omega
  have d2:(4*s.length+QW)/4=s.length+1:=by omega
  have Qu:gy m' (4*s.length+PE) (4*s.length+PN) (4*s.length+QW) (4*s.length+QN):=⟨by omega,by omega,by omega,E.pE,E.pN,by omega,by omega,by omega⟩;have Ob:ai (4*s.length+QW)=4*s.length+QN/\ai (4*s.length+PN)=4*s.length+PE:=by
   unfold Sp.ai;clear E Qu hL;omega
  have up:∀x,x<4*s.length->aR (s.length+1) (aR s.length x)=x:=fun x hx=>by
   have e:aR s.length x=x:=zM (by omega);rw[e];exact zM (by omega)
  refine Ry er hd ij (lo:=s.length) (hi:=s.length+1) (by omega) (by omega) Qu Ob (.inl ⟨d1,d2⟩) (fun x hx=>?_) ?_ e
  ·rw[up x hx,up _ (hd.aW.lt x hx),VH,Dh,VG,VF];exact E.cl x hx
  ·have hl:=Jv (lo:=s.length) (hi:=s.length+1) er (by rw[ij];omega) Qu;unfold Cv at hl;rw[VH,Dh,VG,VF]at hl⊢;rw[Nat.add_assoc,hl,E.k];omega
 clear kO;generalize hx:(Lm:Int)=Lq at h;cases h with
 |un c p q _ h1 h2 h3 h4=>
  refine⟨fun h=>by omega,fun _=>?_,fun _ h=>zzA rfl h⟩;obtain⟨hb,hw⟩:=QP hv h1 h2;obtain⟨g1,g2,g3,g4⟩:=D7 s (bB m (af p) (af q)) h1;have r:=Sz hd er (by omega) h1 h2 hb (fun x hx=>((MP hd h1 h2 (by rw[<-g1];exact hx)).1).symm) (L:=Ln) (L':=Lm) (by
   rw[<-hx]at h3;by_cases u:ae m (af p)=af q
   ·rw[zM u]at h3⊢;omega
   ·rw[zL u]at h3⊢;omega) e
  rw[hw]at r;exact r
 |up lo hi p1 p2 q1 q2 _ h1 h2 h3 ho h4 h5 h6=>
  refine⟨fun h=>by omega,fun h=>by omega,fun _ _=>?_⟩;obtain⟨g1,g2,g3,g4⟩:=D6 s (bB (bB m (af p1) (af q1)) (af p2) (af q2)) h1 h2;have hp:p1<4*s.length:=by rcases h4 with g|g<;>omega
  have a1:=Jv (lo:=lo) (hi:=hi) hd hp h3;have a2:=UE (lo:=lo) (hi:=hi) hd hp h3;refine(Ry hd er (by omega) h1 h2 h3 ho h4 (fun x hx=>((Jf hd h1 h2 h3 h4 (by rw[<-g1];exact hx)).1).symm) ?_ e).symm;rw[Nat.add_assoc,a1,<-a2];rw[<-hx]at h5;clear a1 a2;by_cases u:ae m (af p1)=af q1
  ·rw[zM u]at h5⊢;by_cases w:ae (bB m (af p1) (af q1)) (af p2)=af q2
   ·rw[zM w]at h5⊢;omega
   ·rw[zL w]at h5⊢;omega
  ·rw[zL u]at h5⊢;by_cases w:ae (bB m (af p1) (af q1)) (af p2)=af q2
   ·rw[zM w]at h5⊢;omega
   ·rw[zL w]at h5⊢;omega
 |sl h i j lh e1 e2 e3 h1 h2 h3 hp=>
  refine⟨fun h=>by omega,fun h=>by omega,fun _ _=>?_⟩;obtain rfl:Lm=Ln:=by omega
  obtain⟨T,dq⟩:=Ts hv lh e1 e2 e3 h1 h2 h3;exact(Zo hd er T (fun y hy=>lT m _ hy) dq hp _ e).symm
 |_=>omega
end
end Hs
open Sp
namespace Hs
theorem UY{a b c d:Nat}(h1:b/4=a/4)(h2:d/4=c/4)(h3:a/4≠c/4)(h4:b % 2≠a % 2):af a≠a/\af a≠b/\af a≠c/\af a≠d:=by unfold Sp.af;omega
theorem Rx{a b y:Nat}(h:y/4=a/4)(h1:b/4=a/4)(h4:b % 2≠a % 2):y=a\/y=b\/y=af a\/y=af b:=by unfold Sp.af;omega
variable{s m s' m':List Int}{L L':Int}{k:Nat}{g:Int}
theorem yi(h:gN s m L k g s' m' L'):s'.length<=s.length+2/\L'<=L+2/\3*(s'.length:Int)+L'<=3*s.length+L+6:=by
 cases h with
 |cl pos ov h1 h2=>simp only[zG,List.length_singleton];omega
 |cx pos ov x h1 h2 h3=>simp only[zG,List.length_singleton];omega
 |un c p q _ h1 h2 h3 h4=>
  have:=(D7 s m h1).1
  rw[this];split at h3<;>omega
 |up lo hi p1 p2 q1 q2 _ h1 h2 h3 _ h4 h5 h6=>
  have:=(D6 s m h1 h2).1
  rw[this];split at h5<;>split at h5<;>omega
 |sl h i j=>omega
 |_=>simp only[vw,zG,zH,zzC];omega
theorem Bo(h:gN s m L 1 g s' m' L'):g=1\/g= -1:=by
 cases h with
 |cl pos ov h1 h2=>cases pos<;>simp[rR]
 |cx pos ov x h1 h2 h3=>cases pos<;>simp[rR]
theorem yg(h:gN s m L k g s' m' L'):0<s.length\/0<L:=by
 cases h<;>omega
theorem yh(hv:bG s m L=true)(h:gN s m L k g s' m' L'):¬(s'.length=0/\L'=0):=by
 have hd:=(Sp.aE hv).1;have ha:=hd.aW;have l0:=(gP hv).l0;have inv:∀{x y:Nat},x<4*s.length->ae m x=y->ae m y=x:=fun {x y} hx e=>by rw[<-e,ha.inv x hx]
 rintro⟨z1,z2⟩;cases h with
 |cl pos ov h1 h2=>simp at z1
 |cx pos ov x h1 h2 h3=>simp at z1
 |un c p q _ h1 K h3 h4=>
  rw[(D7 s m h1).1]at z1;have hp:=K.pc;have hq:=K.qc;have hx:=ha.lt (af p) (aG (by omega));have n1:=ha.ne (af p) (aG (by omega));have n2:ae m (af p)≠p:=fun e=>by
   have:=inv (aG (by omega)) e;rw[K.pq]at this;exact K.no this
  have n3:ae m (af p)≠q:=fun e=>by
   have e2:=inv (aG (by omega)) e;rw[inv (by omega) K.pq]at e2;unfold Sp.af at e2;omega
  have n4:=K.no;have n5:=K.ne;rw[zM (by unfold Sp.af at*;omega)]at h3;omega
 |up lo hi p1 p2 q1 q2 _ h1 h2 K ho h4 h5 h6=>
  rw[(D6 s m h1 h2).1]at z1;have hp:p1<4*s.length:=by rcases h4 with g|g<;>omega
  have hq:q1<4*s.length:=by rcases h4 with g|g<;>omega
  obtain⟨d1,d2,d3,d4,d5,d6⟩:=K.Dk;have kp:=K.pp;have kq:=K.qq;have ow:p2<4*s.length:=by omega
  have p6:q2<4*s.length:=by omega
  have hL:=UE (lo:=lo) (hi:=hi) hd hp K;have hl:=Jv (lo:=lo) (hi:=hi) hd hp K;have oY:∀x y,x<4*s.length->y<4*s.length->y=p1\/y=p2\/y=q1\/y=q2->ae m x=y->x=p1\/x=p2\/x=q1\/x=q2:=fun x y hx hy h e=>by
   have e2:=inv hx e;rcases h with h|h|h|h
   ·rw[h,K.a1]at e2;exact .inr (.inr (.inl e2.symm))
   ·rw[h,K.a2]at e2;exact .inr (.inr (.inr e2.symm))
   ·rw[h,inv hp K.a1]at e2;exact .inl e2.symm
   ·rw[h,inv ow K.a2]at e2;exact .inr (.inl e2.symm)
  have pn:=K.pn;have qn:=K.qn;have all:∀y,y<4*s.length->y=p1\/y=p2\/y=q1\/y=q2\/y=af p1\/y=af p2\/y=af q1\/y=af q2:=fun y hy=>by
   have xu:y/4=lo\/y/4=hi:=by clear h5 hL hl oY ho;omega
   have hy3:y/4=p1/4\/y/4=q1/4:=by
    rcases h4 with ⟨g1,g2⟩|⟨g1,g2⟩<;>rw[g1,g2]
    ·exact xu
    ·exact xu.symm
   rcases hy3 with g|g
   ·rcases Rx g kp pn with r|r|r|r<;>simp[r]
   ·rcases Rx g kq qn with r|r|r|r<;>simp[r]
  have out:∀x,x<4*s.length->¬(x=p1\/x=p2\/x=q1\/x=q2)->ae m x=af p1\/ae m x=af p2\/ae m x=af q1\/ae m x=af q2:=fun x hx hn=>by
   have hy:=ha.lt x hx;rcases all _ hy with g|g|g|g|g
   ·exact zzA (oY x _ hx hy (.inl g) rfl) hn
   ·exact zzA (oY x _ hx hy (.inr (.inl g)) rfl) hn
   ·exact zzA (oY x _ hx hy (.inr (.inr (.inl g))) rfl) hn
   ·exact zzA (oY x _ hx hy (.inr (.inr (.inr g))) rfl) hn
   ·exact g
  have nO:∀x,(x=af p1\/x=af q1)->¬(x=p1\/x=p2\/x=q1\/x=q2):=fun x hx=>by
   have A:=UY kp kq K.pq pn;have C:=UY kq kp (Ne.symm K.pq) qn;rcases hx with rfl|rfl
   ·rintro (g|g|g|g)
    ·exact A.1 g
    ·exact A.2.1 g
    ·exact A.2.2.1 g
    ·exact A.2.2.2 g
   ·rintro (g|g|g|g)
    ·exact C.2.2.1 g
    ·exact C.2.2.2 g
    ·exact C.1 g
    ·exact C.2.1 g
  have uF:=aG hp;have rT:=aG hq;have r1:=out _ uF (nO _ (.inl rfl));have r2:=out _ rT (nO _ (.inr rfl));have n1:=ha.ne _ uF;have n2:=ha.ne _ rT;have one:1<=Cv m p1 p2 q1 q2:=by
   unfold Cv;by_cases g:ae m (af p1)=af q1
   ·rw[zM g];omega
   rw[zL g];have uJ:(ae m (af p1)=af p2/\ae m (af q1)=af q2)\/(ae m (af p1)=af q2/\ae m (af q1)=af p2):=by
    rcases r1 with r|r|r|r
    ·exact zzA r n1
    ·refine .inl ⟨r,?_⟩;rcases r2 with t|t|t|t
     ·exact zzA (inv rT t) g
     ·have e1:=inv uF r;rw[inv rT t]at e1;exact zzA e1.symm d1
     ·exact zzA t n2
     ·exact t
    ·exact zzA r g
    ·refine .inr ⟨r,?_⟩;rcases r2 with t|t|t|t
     ·exact zzA (inv rT t) g
     ·exact t
     ·exact zzA t n2
     ·have e1:=inv uF r;rw[inv rT t]at e1;exact zzA e1.symm d1
   rw[zM uJ];omega
  rw[<-hL]at one
  split at h5<;>split at h5<;>rename_i u w<;>simp only[u,w,if_true,if_false,ite_true,ite_false]at one<;>omega
 |sl h i j lh=>omega
 |_=>simp[vw]at z1
end Hs
end Go.Proofs.YthohfoombimbeaaGreatDoor
