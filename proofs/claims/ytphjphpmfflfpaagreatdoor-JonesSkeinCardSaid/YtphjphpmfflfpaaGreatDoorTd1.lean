/- Plain: the sum along an order is the sum over all states. -/
import Derived.Test.YtphjphpmfflfpaaGreatDoorZk
namespace Go.Proofs.YtphjphpmfflfpaaGreatDoor
set_option linter.unusedVariables false
set_option linter.unusedSimpArgs false
set_option linter.unusedSectionVars false
theorem yP {f g:Int->Int} (h: ∀e,f e=g e) (e:Int):c9 f e=c9 g e:=by simp only [c9,h]
theorem qZ {f g:Int->Int} (h: ∀e,f e=g e): ∀i e,dmn i f e=dmn i g e
 |0,e=>h e
 |i+1,e=>yP (qZ h i) e
theorem Hx (f:Int->Int) (j:Nat): ∀i e,dmn i (dmn j f) e=dmn (i+j) f e
 |0,e=>by rw [Nat.zero_add];rfl
 |i+1,e=>by rw [Nat.add_right_comm];exact yP (Hx f j i) e
theorem Pm (f:Int->Int) (a:Int): ∀i e,dmn i (fun x=>f (x-a)) e=dmn i f (e-a)
 |0,e=>rfl
 |i+1,e=>by
  simp only [dmn,c9,Pm f a i];rw [show e+2-a=e-a+2 by omega,show e-2-a=e-a-2 by omega]
theorem Ou: ∀i e,dmn i (fun _=>0) e=0
 |0,_=>rfl
 |i+1,e=>by simp only [dmn,c9,Ou i];rfl
theorem DR: ∀i e,dmn i (fun x=>if x=0 then 1 else 0) e=dpw i e
 |0,_=>rfl
 |i+1,e=>yP (DR i) e
def km (ch:Nat->Bool) (c:Nat) (b:Bool):Nat->Bool:=fun x=>if x=c then b else ch x
def psm (F:(Nat->Bool)->Int):List Nat->(Nat->Bool)->Int
 |[],ch=>F ch
 |c::r,ch=>psm F r (km ch c false)+psm F r (km ch c true)
theorem O6 {F G:(Nat->Bool)->Int}: ∀(r:List Nat) (ch:Nat->Bool),(∀ch',(∀x,x∉r->ch' x=ch x)->F ch'=G ch')->psm F r ch=psm G r ch
 |[],ch,h=>h ch fun _ _=>rfl
 |c::r,ch,h=>by
  have key: ∀b,psm F r (km ch c b)=psm G r (km ch c b):=fun b=>O6 r _ fun ch' h'=>h ch' fun x hx=>by
   rw [h' x fun g=>hx (List.mem_cons_of_mem _ g)];exact if_neg fun (e:x=c)=>hx (by rw [e];exact List.mem_cons_self ..)
  simp only [psm,key]
theorem EE (ch:Nat->Bool) {x y:Nat} (h:x≠y) (a b:Bool):km (km ch y a) x b=km (km ch x b) y a:=by
 funext z;unfold km;by_cases e1:z=x
 ·subst e1;simp [h]
 ·simp [e1]
theorem VB (F:(Nat->Bool)->Int) {l k:List Nat} (h:l.Perm k): ∀ch,psm F l ch=psm F k ch:=by
 induction h with
 |nil=>exact fun _=>rfl
 |cons x _ ih=>exact fun ch=>by simp only [psm,ih]
 |swap x y l=>
  intro ch;by_cases e:x=y
  ·rw [e]
  ·simp only [psm];rw [EE ch e false false,EE ch e false true,EE ch e true false,EE ch e true true];omega
 |trans _ _ h1 h2=>exact fun ch=>(h1 ch).trans (h2 ch)
def dtL:Nat->List Nat
 |0=>[]
 |n+1=>n::dtL n
theorem Ae {c:Nat}: ∀{n:Nat},c∈dtL n↔c<n
 |0=>by simp [dtL]
 |n+1=>by simp only [dtL,List.mem_cons,Ae (n:=n)];omega
theorem Re: ∀n,(dtL n).Nodup
 |0=>by simp [dtL]
 |n+1=>by
  simp only [dtL,List.nodup_cons];exact ⟨fun h=>by have:=Ae.1 h;omega,Re n⟩
theorem Np: ∀n,(dtL n).length=n
 |0=>rfl
 |n+1=>by simp [dtL,Np n]
theorem Gm (F:(Nat->Bool)->Int): ∀(i:Nat) (ch:Nat->Bool),psm F (dtL i) ch=sm (fun k=>F (fun c=>if c<i then da k c else ch c)) (2^i)
 |0,ch=>by simp only [dtL,psm,Nat.pow_zero,sm,Int.zero_add];congr 1
 |i+1,ch=>by
  simp only [dtL,psm];rw [Gm F i,Gm F i,Nat.pow_succ,Nat.mul_two,Eu];congr 1
  ·refine iQ fun k hk=>?_;congr 1;funext c;by_cases e:c=i
   ·subst e;rw [if_neg (by omega),if_pos (by omega),QS hk];simp [km]
   ·by_cases e2:c<i
    ·rw [if_pos e2,if_pos (by omega)]
    ·rw [if_neg e2,if_neg (by omega)];simp [km,e]
  ·refine iQ fun k hk=>?_;congr 1;funext c;by_cases e:c=i
   ·subst e;rw [if_neg (by omega),if_pos (by omega),Nq hk];simp [km]
   ·by_cases e2:c<i
    ·rw [if_pos e2,if_pos (by omega),Nr e2]
    ·rw [if_neg e2,if_neg (by omega)];simp [km,e]
theorem Nn {l:List Nat} {n:Nat} (hn:l.Nodup) (hl:l.length=n) (hr: ∀c∈l,c<n):l.Perm (dtL n):=by
 refine (List.perm_ext_iff_of_nodup hn (Re n)).2 fun a=>⟨fun h=>Ae.2 (hr a h),fun h=>?_⟩;by_cases hm:a∈l
 ·exact hm
 ·exfalso;have h2:=q8 (l:=a::l) (k:=dtL n) (List.nodup_cons.2 ⟨hm,hn⟩) fun y hy=>by
   rcases List.mem_cons.1 hy with rfl|hy
   ·exact h
   ·exact Ae.2 (hr y hy)
  rw [Np] at h2;simp at h2;omega
def vY (b:Bool):Int:=if b then-1 else 1
def wL (r:List Nat) (ch:Nat->Bool):Int:=(r.map fun c=>vY (ch c)).sum
theorem Ut {l k:List Nat} (h:l.Perm k) (ch:Nat->Bool):wL l ch=wL k ch:=HX (h.map _)
theorem Qh (ch:Nat->Bool): ∀n,wL (dtL n) ch=n-2*(difS false ch n:Int)
 |0=>rfl
 |n+1=>by
  have:=Qh ch n
  have e:wL (dtL (n+1)) ch=vY (ch n)+wL (dtL n) ch:=rfl;rw [e,this];simp only [difS,vY];cases ch n<;>simp<;>omega
def spN:List Nat->Nat
 |[]=>1
 |_::_=>0
def finR (m:List Int):List Nat->List Int->List Nat->(Int->Int)->Int->Int
 |[],_,_,f=>f
 |c::r,ends,T,f=>fun e=>
  finR m r (aG m ends c) (cO m ends c T false) (dmn (b7 m ends c T false-spN r) (fun e=>f (e-1))) e+
  finR m r (aG m ends c) (cO m ends c T true) (dmn (b7 m ends c T true-spN r) (fun e=>f (e- -1))) e
theorem sY (m:List Int): ∀(r:List Nat) (ends:List Int) (T:List Nat) {f g:Int->Int},(∀e,f e=g e)-> ∀e,finR m r ends T f e=finR m r ends T g e
 |[],_,_,f,g,h,e=>h e
 |c::r,ends,T,f,g,h,e=>by
  simp only [finR];rw [sY m r _ _ (qZ (fun x=>h (x-1)) _),sY m r _ _ (qZ (fun x=>h (x- -1)) _)]
theorem Hw (m:List Int): ∀(r:List Nat) (ends:List Int) (T:List Nat) (f g:Int->Int) (e:Int),finR m r ends T (fun x=>f x+g x) e=finR m r ends T f e+finR m r ends T g e
 |[],_,_,f,g,e=>rfl
 |c::r,ends,T,f,g,e=>by
  simp only [finR];rw [sY m r _ _ (D2 (fun x=>f (x-1)) (fun x=>g (x-1)) _),sY m r _ _ (D2 (fun x=>f (x- -1)) (fun x=>g (x- -1)) _),Hw m r,Hw m r];omega
def mc (m:List Int) (n:Nat) (P:List Nat) (ends:List Int) (T:List Nat) (r:List Nat) (ch:Nat->Bool):Nat:=(2*mR n (fun x=>m.getD x.toNat 0) (bST m P ends T ch)+ends.length+4*r.length-4*n)/2
theorem Ji {n:Nat} {mt b:Int->Int} (hi:Inv2 n mt b) (h: ∀x,ax n x->b x=mt x):mR n mt b=2*n:=by
 have hR:=v8 hi;unfold mR;generalize crN mt b (4*n) (4*n)=R at*;have hc: ∀(x y:Int),ax n x->aL mt b x y->y=x\/y=mt x:=fun x y hx hc=>by
  induction hc with
  |refl=>exact .inl rfl
  |aJ _ ih=>rcases ih with e|e<;>rw [e];exact .inr rfl;exact .inl (hi.mm _ hx)
  |join hc ih=>
   rw [h _ (hc.bP hi hx)];rcases ih with e|e<;>rw [e];exact .inr rfl;exact .inl (hi.mm _ hx)
 have zu: ∀x:Nat,x<4*n->ax n x:=fun x hx=>by unfold ax;omega
 have ju: ∀x:Nat,x<4*n->(mt x).toNat<4*n/\((mt x).toNat:Int)=mt x:=fun x hx=>by have:=hi.mr _ (zu x hx);unfold ax at this;omega
 have KH: ∀x:Nat,x<4*n->(if R.getD x 0==(x:Int) then (1:Int) else 0)+(if R.getD (mt x).toNat 0==((mt x).toNat:Int) then 1 else 0)=1:=fun x hx=>by
  obtain ⟨a1,a2⟩:=ju x hx;have wU:R.getD (mt x).toNat 0=R.getD x 0:=by
   refine (hR.iff _ _ a1 hx).2 ?_;rw [a2]
   have:=aL.aJ (mt:=mt) (jn:=b) (aL.refl (mt x))
   rw [hi.mm _ (zu x hx)] at this;exact this
  have Fi:=hR.rep.bP x hx;have hid:=hR.rep.idem x hx;have h1:=hc x _ (zu x hx) ((hR.iff x (R.getD x 0).toNat hx (by omega)).1 hid.symm);have aw:=hi.mf _ (zu x hx);rw [Int.toNat_of_nonneg Fi.1] at h1;rw [wU,a2];rcases h1 with e|e
  ·rw [e,if_pos (by simp),if_neg (by simp;exact fun e=>aw e.symm)];rfl
  ·rw [e,if_neg (by simp;exact aw),if_pos (by simp)];rfl
 unfold roots;rw [hR.rep.len];have h2:=Ie (fun x=>R.getD x 0==(x:Int)) (4*n);have h3:=D7 (fun x=>if R.getD x 0==(x:Int) then (1:Int) else 0) (N:=4*n) (fun x=>(mt x).toNat) (fun x hx=>(ju x hx).1) fun x y hx hy e=>by
  have h1:=ju x hx;have h2:=ju y hy
  have:mt x=mt y:=by have e':(mt x).toNat=(mt y).toNat:=e;omega
  have:=congrArg mt this
  rw [hi.mm _ (zu x hx),hi.mm _ (zu y hy)] at this;omega
 have h4:=qp (fun x=>if R.getD x 0==(x:Int) then (1:Int) else 0) (fun x=>if R.getD (mt x).toNat 0==((mt x).toNat:Int) then (1:Int) else 0) (4*n);rw [iQ (g:=fun _=>1) KH,qx] at h4;omega
structure qd (m:List Int) (n:Nat) (P:List Nat) (ends:List Int) (r:List Nat):Prop where
 he:qT m n P ends
 nd:r.Nodup
 dj: ∀c∈r,c∉P/\c<n
 al: ∀c,c<n->c∈P\/c∈r
section
variable {m:List Int} {n:Nat} (hp:bd m n)
include hp
theorem qd.step {P:List Nat} {ends:List Int} {c:Nat} {r:List Nat} (h:qd m n P ends (c::r)):qd m n (c::P) (aG m ends c) r:=by
 have h1:=h.dj c (List.mem_cons_self ..);have h2:=List.nodup_cons.1 h.nd;refine ⟨QU hp h.he h1.2 h1.1,h2.2,fun x hx=>?_,fun x hx=>?_⟩
 ·have h3:=h.dj x (List.mem_cons_of_mem _ hx);refine ⟨fun g=>?_,h3.2⟩;rcases List.mem_cons.1 g with e|e
  ·rw [e] at hx;exact h2.1 hx
  ·exact h3.1 e
 ·rcases h.al x hx with g|g
  ·exact .inl (List.mem_cons_of_mem _ g)
  ·rcases List.mem_cons.1 g with e|e
   ·rw [e];exact .inl (List.mem_cons_self ..)
   ·exact .inr e
omit hp in
theorem qd.init {r:List Nat} (hn:r.Nodup) (hl:r.length=n) (hr: ∀c∈r,c<n):qd m n [] [] r:=
 ⟨⟨by simp,by simp⟩,hn,fun c hc=>⟨by simp,hr c hc⟩,fun c hc=> .inr ((Nn hn hl hr).mem_iff.2 (Ae.2 hc))⟩
theorem yC: ∀(r:List Nat) (P:List Nat) (ends:List Int) (T:List Nat),qd m n P ends r->nA T ends.length-> ∀ch:Nat->Bool,
  2*mc m n P ends T r ch+4*n=2*mR n (fun x=>m.getD x.toNat 0) (bST m P ends T ch)+ends.length+4*r.length/\(r≠[]->1<=mc m n P ends T r ch)/\(r=[]->mc m n P ends T r ch=0)/\
  ∀c r',r=c::r'->mc m n P ends T r ch=mc m n (c::P) (aG m ends c) (cO m ends c T (ch c)) r' ch+b7 m ends c T (ch c)
 |[],P,ends,T,h,hT,ch=>by
  have h0:=DT hp h.he fun c hc=>by rcases h.al c hc with g|g;exact g;simp at g
  subst h0;have h1:=Ji (G4 hp h.he hT ch) fun x hx=>by
   rw [wz hp h.he hT ch (by simp)];exact if_pos (by
    rcases h.al (x/4).toNat (by unfold ax at hx;omega) with g|g
    ·exact g
    ·simp at g)
  unfold mc;rw [h1];refine ⟨by simp only [List.length_nil];omega,fun h=>absurd rfl h,fun _=>by simp only [List.length_nil];omega,fun c r' e=>by simp at e⟩
 |c::r,P,ends,T,h,hT,ch=>by
  have h1:=h.dj c (List.mem_cons_self ..);have hs:=h.step hp;obtain ⟨q1,q2⟩:=tN hp h.he hT h1.2 h1.1 ch;obtain ⟨k1,k2,k3,_⟩:=yC r _ _ _ hs q1 ch;have key:2*mR n (fun x=>m.getD x.toNat 0) (bST m P ends T ch)+ends.length+4*(c::r).length=2*(mc m n (c::P) (aG m ends c) (cO m ends c T (ch c)) r ch+b7 m ends c T (ch c))+4*n:=by
   simp only [List.length_cons];omega
  have e:mc m n P ends T (c::r) ch=mc m n (c::P) (aG m ends c) (cO m ends c T (ch c)) r ch+b7 m ends c T (ch c):=by
   conv=>lhs;unfold mc
   rw [key];omega
  refine ⟨by rw [key,e],fun _=>?_,fun h=>by simp at h,fun c' r' e'=>by cases e';exact e⟩;cases r with
  |nil=>
   have h0:=DT hp hs.he fun c hc=>by rcases hs.al c hc with g|g;exact g;simp at g
   have:=QT hp h.he hT h1.2 h1.1 (ch c) h0
   omega
  |cons x r=>have:=k2 (by simp);omega
def yX:List Nat->Nat
 |[]=>0
 |_::_=>1
theorem Ot: ∀(r:List Nat) (P:List Nat) (ends:List Int) (T:List Nat),qd m n P ends r->nA T ends.length-> ∀(f:Int->Int) (e:Int) (zI:Nat->Bool),
  finR m r ends T f e=psm (fun ch=>dmn (mc m n P ends T r ch-yX r) f (e-wL r ch)) r zI
 |[],P,ends,T,h,hT,f,e,zI=>by
  have:=(yC hp [] P ends T h hT zI).2.2.1 rfl
  simp only [finR,psm,yX,this,wL,List.map_nil,List.sum_nil,Int.sub_zero];rfl
 |c::r,P,ends,T,h,hT,f,e,zI=>by
  have h1:=h.dj c (List.mem_cons_self ..);have hs:=h.step hp;have zB:=(List.nodup_cons.1 h.nd).1;simp only [finR,psm];have key: ∀b:Bool,finR m r (aG m ends c) (cO m ends c T b) (dmn (b7 m ends c T b-spN r) (fun x=>f (x-vY b))) e=psm (fun ch=>dmn (mc m n P ends T (c::r) ch-yX (c::r)) f (e-wL (c::r) ch)) r (km zI c b):=fun b=>by
   have q1:=(tN hp h.he hT h1.2 h1.1 (fun _=>b)).1;rw [Ot r _ _ _ hs q1 _ e (km zI c b)];refine O6 r _ fun ch mq=>?_;have jT:ch c=b:=by rw [mq c zB];exact if_pos rfl
   have e1:=(yC hp (c::r) P ends T h hT ch).2.2.2 c r rfl;obtain ⟨_,k2,k3,_⟩:=yC hp r _ _ _ hs q1 ch;rw [jT] at e1;have hw:wL (c::r) ch=vY b+wL r ch:=by simp only [wL,List.map_cons,List.sum_cons,jT]
   rw [Hx,Pm,e1,hw];rw [show e-wL r ch-vY b=e-(vY b+wL r ch) by omega];congr 1;cases r with
   |nil=>
    have h0:=DT hp hs.he fun c hc=>by rcases hs.al c hc with g|g;exact g;simp at g
    have:=QT hp h.he hT h1.2 h1.1 b h0
    have:=k3 rfl
    simp only [spN,yX];omega
   |cons x r=>have:=k2 (by simp);simp only [spN,yX];omega
  have kf:=key false;have kt:=key true;simp only [vY,Bool.false_eq_true,if_false,if_true] at kf kt;rw [kf,kt]
theorem N3 (ch:Nat->Bool) {r:List Nat} (h:qd m n [] [] r) (hl:r.length=n):mc m n [] [] [] r ch=bF m n ch:=by
 have h1:=(yC hp r [] [] [] h ⟨rfl,fun x hx=>by simp at hx,fun x hx=>by simp at hx,fun x hx=>by simp at hx⟩ ch).1;have h2:mR n (fun x=>m.getD x.toNat 0) (bST m [] [] [] ch)=bF m n ch:=by
  have hi:=qt hp.ok hp.inv hp.ne ch;have e:bST m [] [] [] ch=fun x=>aB (ch (x/4).toNat) x:=by
   funext x;simp [bST,ndF]
  rw [e];exact Ev (v8 hi) (yc hp.ok hp.inv hp.ne)
 rw [h2,hl] at h1;simp only [List.length_nil] at h1;omega
theorem Us {r:List Nat} (hn:r.Nodup) (hl:r.length=n) (hr: ∀c∈r,c<n) (jN:0<n) (e:Int):finR m r [] [] (fun x=>if x=0 then 1 else 0) e=bA m n 0 1 e:=by
 have hS:=qd.init (m:=m) hn hl hr;have df:=Nn hn hl hr;rw [Ot hp r [] [] [] hS ⟨rfl,fun x hx=>by simp at hx,fun x hx=>by simp at hx,fun x hx=>by simp at hx⟩ _ e (fun _=>false)];rw [VB _ df,Gm];unfold bA oU;refine iQ fun k hk=>?_;rw [N3 hp _ hS hl,Ut df,Qh,DR]
 have dT:yX r=1:=by cases r with
  |nil=>simp at hl;omega
  |cons _ _=>rfl
 have e1:bF m n (fun c=>if c<n then da k c else false)=bF m n (da k):=by unfold bF;rw [AK fun c hc=>if_pos hc]
 have e2:difS false (fun c=>if c<n then da k c else false) n=gR k n:=by rw [yD];exact ES fun c hc=>if_pos hc
 have:=EF hp (da k) jN
 rw [dT,e1,e2];unfold cN wB;rw [if_pos (by omega),Nat.add_zero]
def nmR (m:List Int):List Nat->List Int->List Nat->Nat
 |[],_,_=>1
 |c::r,ends,T=>2^b7 m ends c T false*nmR m r (aG m ends c) (cO m ends c T false)+2^b7 m ends c T true*nmR m r (aG m ends c) (cO m ends c T true)
omit hp in
theorem DQ (m:List Int): ∀(r:List Nat) (ends:List Int) (T:List Nat),1<=nmR m r ends T
 |[],_,_=>Nat.le_refl _
 |c::r,ends,T=>by
  have h1:=DQ m r (aG m ends c) (cO m ends c T false);have h2:1<=2^b7 m ends c T false:=Nat.one_le_two_pow
  have:=Nat.mul_le_mul h2 h1
  simp only [nmR];omega
omit hp in
theorem Jh (P:List Nat) (ends:List Int) (T:List Nat) (ch:Nat->Bool) (c:Nat) (b:Bool) (h:c∈P):bST m P ends T (km ch c b)=bST m P ends T ch:=by
 funext x;unfold bST
 split
 ·rfl
 ·split
  ·rfl
  ·rename_i hn
   have:(x/4).toNat≠c:=fun e=>hn (e▸h)
   simp only [km,if_neg this]
theorem Rd: ∀(r:List Nat) (P:List Nat) (ends:List Int) (T:List Nat),qd m n P ends r->nA T ends.length-> ∀M:Nat,(∀ch,mc m n P ends T r ch<=M)->nmR m r ends T<=2^(r.length+M)
 |[],P,ends,T,h,hT,M,hM=>Nat.one_le_two_pow
 |c::r,P,ends,T,h,hT,M,hM=>by
  have h1:=h.dj c (List.mem_cons_self ..);have hs:=h.step hp;have key: ∀b:Bool,2^b7 m ends c T b*nmR m r (aG m ends c) (cO m ends c T b)<=2^(r.length+M):=fun b=>by
   have q1:=(tN hp h.he hT h1.2 h1.1 (fun _=>b)).1;have hk: ∀ch,mc m n (c::P) (aG m ends c) (cO m ends c T b) r ch+b7 m ends c T b<=M:=fun ch=>by
    have e1:=(yC hp (c::r) P ends T h hT (km ch c b)).2.2.2 c r rfl;have e2:km ch c b c=b:=if_pos rfl;have e3:mc m n (c::P) (aG m ends c) (cO m ends c T b) r (km ch c b)=mc m n (c::P) (aG m ends c) (cO m ends c T b) r ch:=by
     unfold mc;rw [Jh _ _ _ _ _ _ (List.mem_cons_self ..)]
    rw [e2,e3] at e1
    have:=hM (km ch c b)
    omega
   have hM0:=hk (fun _=>false);have ih:=Rd r _ _ _ hs q1 (M-b7 m ends c T b) fun ch=>by have:=hk ch;omega
   refine Nat.le_trans (Nat.mul_le_mul_left _ ih) ?_;rw [←Nat.pow_add];exact Nat.pow_le_pow_right (by omega) (by omega)
  have kf:=key false;have kt:=key true;simp only [nmR,List.length_cons]
  have:2^(r.length+1+M)=2^(r.length+M)+2^(r.length+M):=by rw [Nat.add_right_comm,Nat.pow_succ];omega
  omega
theorem VA {r:List Nat} (hn:r.Nodup) (hl:r.length=n) (hr: ∀c∈r,c<n):nmR m r [] []<=2^(3*n):=by
 have hS:=qd.init (m:=m) hn hl hr
 have:=Rd hp r [] [] [] hS ⟨rfl,fun x hx=>by simp at hx,fun x hx=>by simp at hx,fun x hx=>by simp at hx⟩ (2*n) fun ch=>by
  rw [N3 hp ch hS hl];exact s5 hp ch
 rw [hl] at this;rwa [show 3*n=n+2*n by omega]
end
end Go.Proofs.YtphjphpmfflfpaaGreatDoor
