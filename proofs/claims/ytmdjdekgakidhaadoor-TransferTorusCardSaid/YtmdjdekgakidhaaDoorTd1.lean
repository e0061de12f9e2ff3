/- Plain: the sum along an order is the sum over all states. -/
import Derived.Test.YtmdjdekgakidhaaDoorZj
namespace Go.Proofs.YtmdjdekgakidhaaDoor
set_option linter.unusedVariables false
set_option linter.unusedSimpArgs false
set_option linter.unusedSectionVars false
theorem ydt {f g:Int->Int} (h: ∀e,f e=g e) (e:Int):dml f e=dml g e:=by simp only [dml,h]
theorem ybe {f g:Int->Int} (h: ∀e,f e=g e): ∀i e,dmn i f e=dmn i g e
 |0,e=>h e
 |i+1,e=>ydt (ybe h i) e
theorem yk1 (f:Int->Int) (j:Nat): ∀i e,dmn i (dmn j f) e=dmn (i+j) f e
 |0,e=>by rw [Nat.zero_add];rfl
 |i+1,e=>by rw [Nat.add_right_comm];exact ydt (yk1 f j i) e
theorem yn0 (f:Int->Int) (a:Int): ∀i e,dmn i (fun x=>f (x-a)) e=dmn i f (e-a)
 |0,e=>rfl
 |i+1,e=>by
  simp only [dmn,dml,yn0 f a i]
  rw [show e+2-a=e-a+2 by omega,show e-2-a=e-a-2 by omega]
theorem yh6: ∀i e,dmn i (fun _=>0) e=0
 |0,_=>rfl
 |i+1,e=>by simp only [dmn,dml,yh6 i];rfl
theorem yjn: ∀i e,dmn i (fun x=>if x=0 then 1 else 0) e=dpw i e
 |0,_=>rfl
 |i+1,e=>ydt (yjn i) e
def upB (ch:Nat->Bool) (c:Nat) (b:Bool):Nat->Bool:=fun x=>if x=c then b else ch x
def psm (F:(Nat->Bool)->Int):List Nat->(Nat->Bool)->Int
 |[],ch=>F ch
 |c::r,ch=>psm F r (upB ch c false)+psm F r (upB ch c true)
theorem yn1 {F G:(Nat->Bool)->Int}: ∀(r:List Nat) (ch:Nat->Bool),(∀ch',(∀x,x∉r->ch' x=ch x)->F ch'=G ch')->psm F r ch=psm G r ch
 |[],ch,h=>h ch fun _ _=>rfl
 |c::r,ch,h=>by
  have key: ∀b,psm F r (upB ch c b)=psm G r (upB ch c b):=fun b=>yn1 r _ fun ch' h'=>h ch' fun x hx=>by
   rw [h' x fun g=>hx (List.mem_cons_of_mem _ g)]
   exact if_neg fun (e:x=c)=>hx (by rw [e];exact List.mem_cons_self ..)
  simp only [psm,key]
theorem yh7 (ch:Nat->Bool) {x y:Nat} (h:x≠y) (a b:Bool):upB (upB ch y a) x b=upB (upB ch x b) y a:=by
 funext z
 unfold upB
 by_cases e1:z=x
 ·subst e1;simp [h]
 ·simp [e1]
theorem yzo (F:(Nat->Bool)->Int) {l k:List Nat} (h:l.Perm k): ∀ch,psm F l ch=psm F k ch:=by
 induction h with
 |nil=>exact fun _=>rfl
 |cons x _ ih=>exact fun ch=>by simp only [psm,ih]
 |swap x y l=>
  intro ch
  by_cases e:x=y
  ·rw [e]
  ·simp only [psm]
   rw [yh7 ch e false false,yh7 ch e false true,yh7 ch e true false,yh7 ch e true true]
   omega
 |trans _ _ h1 h2=>exact fun ch=>(h1 ch).trans (h2 ch)
def dtL:Nat->List Nat
 |0=>[]
 |n+1=>n::dtL n
theorem yg5 {c:Nat}: ∀{n:Nat},c∈dtL n↔c<n
 |0=>by simp [dtL]
 |n+1=>by simp only [dtL,List.mem_cons,yg5 (n:=n)];omega
theorem ywm: ∀n,(dtL n).Nodup
 |0=>by simp [dtL]
 |n+1=>by
  simp only [dtL,List.nodup_cons]
  exact ⟨fun h=>by have:=yg5.1 h;omega,ywm n⟩
theorem ysp: ∀n,(dtL n).length=n
 |0=>rfl
 |n+1=>by simp [dtL,ysp n]
theorem yqk (F:(Nat->Bool)->Int): ∀(i:Nat) (ch:Nat->Bool),psm F (dtL i) ch=sm (fun k=>F (fun c=>if c<i then chB k c else ch c)) (2^i)
 |0,ch=>by simp only [dtL,psm,Nat.pow_zero,sm,Int.zero_add];congr 1
 |i+1,ch=>by
  simp only [dtL,psm]
  rw [yqk F i,yqk F i,Nat.pow_succ,Nat.mul_two,yps]
  congr 1
  ·refine yc3 fun k hk=>?_
   congr 1;funext c
   by_cases e:c=i
   ·subst e;rw [if_neg (by omega),if_pos (by omega),y49 hk];simp [upB]
   ·by_cases e2:c<i
    ·rw [if_pos e2,if_pos (by omega)]
    ·rw [if_neg e2,if_neg (by omega)];simp [upB,e]
  ·refine yc3 fun k hk=>?_
   congr 1;funext c
   by_cases e:c=i
   ·subst e;rw [if_neg (by omega),if_pos (by omega),y3b hk];simp [upB]
   ·by_cases e2:c<i
    ·rw [if_pos e2,if_pos (by omega),y3a e2]
    ·rw [if_neg e2,if_neg (by omega)];simp [upB,e]
theorem ysq {l:List Nat} {n:Nat} (hn:l.Nodup) (hl:l.length=n) (hr: ∀c∈l,c<n):l.Perm (dtL n):=by
 refine (List.perm_ext_iff_of_nodup hn (ywm n)).2 fun a=>⟨fun h=>yg5.2 (hr a h),fun h=>?_⟩
 by_cases hm:a∈l
 ·exact hm
 ·exfalso
  have h2:=yay (l:=a::l) (k:=dtL n) (List.nodup_cons.2 ⟨hm,hn⟩) fun y hy=>by
   rcases List.mem_cons.1 hy with rfl|hy
   ·exact h
   ·exact yg5.2 (hr y hy)
  rw [ysp] at h2
  simp at h2
  omega
def bsg (b:Bool):Int:=if b then-1 else 1
def wL (r:List Nat) (ch:Nat->Bool):Int:=(r.map fun c=>bsg (ch c)).sum
theorem y3c {l k:List Nat} (h:l.Perm k) (ch:Nat->Bool):wL l ch=wL k ch:=yh2 (h.map _)
theorem y0r (ch:Nat->Bool): ∀n,wL (dtL n) ch=n-2*(difS false ch n:Int)
 |0=>rfl
 |n+1=>by
  have:=y0r ch n
  have e:wL (dtL (n+1)) ch=bsg (ch n)+wL (dtL n) ch:=rfl
  rw [e,this]
  simp only [difS,bsg]
  cases ch n<;>simp<;>omega
def spN:List Nat->Nat
 |[]=>1
 |_::_=>0
def finR (m:List Int):List Nat->List Int->List Nat->(Int->Int)->Int->Int
 |[],_,_,f=>f
 |c::r,ends,T,f=>fun e=>
  finR m r (endL m ends c) (nxT m ends c T false) (dmn (ccN m ends c T false-spN r) (fun e=>f (e-1))) e+
  finR m r (endL m ends c) (nxT m ends c T true) (dmn (ccN m ends c T true-spN r) (fun e=>f (e- -1))) e
theorem ybo (m:List Int): ∀(r:List Nat) (ends:List Int) (T:List Nat) {f g:Int->Int},(∀e,f e=g e)-> ∀e,finR m r ends T f e=finR m r ends T g e
 |[],_,_,f,g,h,e=>h e
 |c::r,ends,T,f,g,h,e=>by
  simp only [finR]
  rw [ybo m r _ _ (ybe (fun x=>h (x-1)) _),ybo m r _ _ (ybe (fun x=>h (x- -1)) _)]
theorem yk2 (m:List Int): ∀(r:List Nat) (ends:List Int) (T:List Nat) (f g:Int->Int) (e:Int),finR m r ends T (fun x=>f x+g x) e=finR m r ends T f e+finR m r ends T g e
 |[],_,_,f,g,e=>rfl
 |c::r,ends,T,f,g,e=>by
  simp only [finR]
  rw [ybo m r _ _ (yfn (fun x=>f (x-1)) (fun x=>g (x-1)) _),ybo m r _ _ (yfn (fun x=>f (x- -1)) (fun x=>g (x- -1)) _),yk2 m r,yk2 m r]
  omega
def kRm (m:List Int) (n:Nat) (P:List Nat) (ends:List Int) (T:List Nat) (r:List Nat) (ch:Nat->Bool):Nat:=(2*ncl n (fun x=>m.getD x.toNat 0) (bST m P ends T ch)+ends.length+4*r.length-4*n)/2
theorem y5a {n:Nat} {mt b:Int->Int} (hi:Inv2 n mt b) (h: ∀x,InR n x->b x=mt x):ncl n mt b=2*n:=by
 have hR:=yhv hi
 unfold ncl
 generalize crN mt b (4*n) (4*n)=R at*
 have hc: ∀(x y:Int),InR n x->Cir mt b x y->y=x\/y=mt x:=fun x y hx hc=>by
  induction hc with
  |refl=>exact .inl rfl
  |mate _ ih=>rcases ih with e|e<;>rw [e];exact .inr rfl;exact .inl (hi.mm _ hx)
  |join hc ih=>
   rw [h _ (hc.rng hi hx)]
   rcases ih with e|e<;>rw [e];exact .inr rfl;exact .inl (hi.mm _ hx)
 have hir: ∀x:Nat,x<4*n->InR n x:=fun x hx=>by unfold InR;omega
 have hmr: ∀x:Nat,x<4*n->(mt x).toNat<4*n/\((mt x).toNat:Int)=mt x:=fun x hx=>by have:=hi.mr _ (hir x hx);unfold InR at this;omega
 have hsum: ∀x:Nat,x<4*n->(if R.getD x 0==(x:Int) then (1:Int) else 0)+(if R.getD (mt x).toNat 0==((mt x).toNat:Int) then 1 else 0)=1:=fun x hx=>by
  obtain ⟨a1,a2⟩:=hmr x hx
  have hxm:R.getD (mt x).toNat 0=R.getD x 0:=by
   refine (hR.iff _ _ a1 hx).2 ?_
   rw [a2]
   have:=Cir.mate (mt:=mt) (jn:=b) (Cir.refl (mt x))
   rw [hi.mm _ (hir x hx)] at this
   exact this
  have hrr:=hR.rep.rng x hx
  have hid:=hR.rep.idem x hx
  have h1:=hc x _ (hir x hx) ((hR.iff x (R.getD x 0).toNat hx (by omega)).1 hid.symm)
  have hne:=hi.mf _ (hir x hx)
  rw [Int.toNat_of_nonneg hrr.1] at h1
  rw [hxm,a2]
  rcases h1 with e|e
  ·rw [e,if_pos (by simp),if_neg (by simp;exact fun e=>hne e.symm)];rfl
  ·rw [e,if_neg (by simp;exact hne),if_pos (by simp)];rfl
 unfold roots
 rw [hR.rep.len]
 have h2:=yip (fun x=>R.getD x 0==(x:Int)) (4*n)
 have h3:=yja (fun x=>if R.getD x 0==(x:Int) then (1:Int) else 0) (N:=4*n) (fun x=>(mt x).toNat) (fun x hx=>(hmr x hx).1) fun x y hx hy e=>by
  have h1:=hmr x hx
  have h2:=hmr y hy
  have:mt x=mt y:=by have e':(mt x).toNat=(mt y).toNat:=e;omega
  have:=congrArg mt this
  rw [hi.mm _ (hir x hx),hi.mm _ (hir y hy)] at this
  omega
 have h4:=yf3 (fun x=>if R.getD x 0==(x:Int) then (1:Int) else 0) (fun x=>if R.getD (mt x).toNat 0==((mt x).toNat:Int) then (1:Int) else 0) (4*n)
 rw [yc3 (g:=fun _=>1) hsum,yeb] at h4
 omega
structure Stg (m:List Int) (n:Nat) (P:List Nat) (ends:List Int) (r:List Nat):Prop where
 he:yda m n P ends
 nd:r.Nodup
 dj: ∀c∈r,c∉P/\c<n
 al: ∀c,c<n->c∈P\/c∈r
section
variable {m:List Int} {n:Nat} (hp:PmOk m n)
include hp
theorem Stg.step {P:List Nat} {ends:List Int} {c:Nat} {r:List Nat} (h:Stg m n P ends (c::r)):Stg m n (c::P) (endL m ends c) r:=by
 have h1:=h.dj c (List.mem_cons_self ..)
 have h2:=List.nodup_cons.1 h.nd
 refine ⟨ywj hp h.he h1.2 h1.1,h2.2,fun x hx=>?_,fun x hx=>?_⟩
 ·have h3:=h.dj x (List.mem_cons_of_mem _ hx)
  refine ⟨fun g=>?_,h3.2⟩
  rcases List.mem_cons.1 g with e|e
  ·rw [e] at hx;exact h2.1 hx
  ·exact h3.1 e
 ·rcases h.al x hx with g|g
  ·exact .inl (List.mem_cons_of_mem _ g)
  ·rcases List.mem_cons.1 g with e|e
   ·rw [e];exact .inl (List.mem_cons_self ..)
   ·exact .inr e
omit hp in
theorem Stg.init {r:List Nat} (hn:r.Nodup) (hl:r.length=n) (hr: ∀c∈r,c<n):Stg m n [] [] r:=
 ⟨⟨by simp,by simp⟩,hn,fun c hc=>⟨by simp,hr c hc⟩,fun c hc=> .inr ((ysq hn hl hr).mem_iff.2 (yg5.2 hc))⟩
theorem yeg: ∀(r:List Nat) (P:List Nat) (ends:List Int) (T:List Nat),Stg m n P ends r->ybp T ends.length-> ∀ch:Nat->Bool,
  2*kRm m n P ends T r ch+4*n=2*ncl n (fun x=>m.getD x.toNat 0) (bST m P ends T ch)+ends.length+4*r.length/\(r≠[]->1<=kRm m n P ends T r ch)/\(r=[]->kRm m n P ends T r ch=0)/\
  ∀c r',r=c::r'->kRm m n P ends T r ch=kRm m n (c::P) (endL m ends c) (nxT m ends c T (ch c)) r' ch+ccN m ends c T (ch c)
 |[],P,ends,T,h,hT,ch=>by
  have h0:=yg4 hp h.he fun c hc=>by rcases h.al c hc with g|g;exact g;simp at g
  subst h0
  have h1:=y5a (ym8 hp h.he hT ch) fun x hx=>by
   rw [yef hp h.he hT ch (by simp)]
   exact if_pos (by
    rcases h.al (x/4).toNat (by unfold InR at hx;omega) with g|g
    ·exact g
    ·simp at g)
  unfold kRm
  rw [h1]
  refine ⟨by simp only [List.length_nil];omega,fun h=>absurd rfl h,fun _=>by simp only [List.length_nil];omega,fun c r' e=>by simp at e⟩
 |c::r,P,ends,T,h,hT,ch=>by
  have h1:=h.dj c (List.mem_cons_self ..)
  have hs:=h.step hp
  obtain ⟨q1,q2⟩:=yb2 hp h.he hT h1.2 h1.1 ch
  obtain ⟨k1,k2,k3,_⟩:=yeg r _ _ _ hs q1 ch
  have key:2*ncl n (fun x=>m.getD x.toNat 0) (bST m P ends T ch)+ends.length+4*(c::r).length=2*(kRm m n (c::P) (endL m ends c) (nxT m ends c T (ch c)) r ch+ccN m ends c T (ch c))+4*n:=by
   simp only [List.length_cons];omega
  have e:kRm m n P ends T (c::r) ch=kRm m n (c::P) (endL m ends c) (nxT m ends c T (ch c)) r ch+ccN m ends c T (ch c):=by
   conv=>lhs;unfold kRm
   rw [key];omega
  refine ⟨by rw [key,e],fun _=>?_,fun h=>by simp at h,fun c' r' e'=>by cases e';exact e⟩
  cases r with
  |nil=>
   have h0:=yg4 hp hs.he fun c hc=>by rcases hs.al c hc with g|g;exact g;simp at g
   have:=ywl hp h.he hT h1.2 h1.1 (ch c) h0
   omega
  |cons x r=>have:=k2 (by simp);omega
def spR:List Nat->Nat
 |[]=>0
 |_::_=>1
theorem yql: ∀(r:List Nat) (P:List Nat) (ends:List Int) (T:List Nat),Stg m n P ends r->ybp T ends.length-> ∀(f:Int->Int) (e:Int) (ch0:Nat->Bool),
  finR m r ends T f e=psm (fun ch=>dmn (kRm m n P ends T r ch-spR r) f (e-wL r ch)) r ch0
 |[],P,ends,T,h,hT,f,e,ch0=>by
  have:=(yeg hp [] P ends T h hT ch0).2.2.1 rfl
  simp only [finR,psm,spR,this,wL,List.map_nil,List.sum_nil,Int.sub_zero]
  rfl
 |c::r,P,ends,T,h,hT,f,e,ch0=>by
  have h1:=h.dj c (List.mem_cons_self ..)
  have hs:=h.step hp
  have hcr:=(List.nodup_cons.1 h.nd).1
  simp only [finR,psm]
  have key: ∀b:Bool,finR m r (endL m ends c) (nxT m ends c T b) (dmn (ccN m ends c T b-spN r) (fun x=>f (x-bsg b))) e=psm (fun ch=>dmn (kRm m n P ends T (c::r) ch-spR (c::r)) f (e-wL (c::r) ch)) r (upB ch0 c b):=fun b=>by
   have q1:=(yb2 hp h.he hT h1.2 h1.1 (fun _=>b)).1
   rw [yql r _ _ _ hs q1 _ e (upB ch0 c b)]
   refine yn1 r _ fun ch hch=>?_
   have hcb:ch c=b:=by rw [hch c hcr];exact if_pos rfl
   have e1:=(yeg hp (c::r) P ends T h hT ch).2.2.2 c r rfl
   obtain ⟨_,k2,k3,_⟩:=yeg hp r _ _ _ hs q1 ch
   rw [hcb] at e1
   have hw:wL (c::r) ch=bsg b+wL r ch:=by simp only [wL,List.map_cons,List.sum_cons,hcb]
   rw [yk1,yn0,e1,hw]
   rw [show e-wL r ch-bsg b=e-(bsg b+wL r ch) by omega]
   congr 1
   cases r with
   |nil=>
    have h0:=yg4 hp hs.he fun c hc=>by rcases hs.al c hc with g|g;exact g;simp at g
    have:=ywl hp h.he hT h1.2 h1.1 b h0
    have:=k3 rfl
    simp only [spN,spR];omega
   |cons x r=>have:=k2 (by simp);simp only [spN,spR];omega
  have kf:=key false
  have kt:=key true
  simp only [bsg,Bool.false_eq_true,if_false,if_true] at kf kt
  rw [kf,kt]
theorem yqm (ch:Nat->Bool) {r:List Nat} (h:Stg m n [] [] r) (hl:r.length=n):kRm m n [] [] [] r ch=cirS m n ch:=by
 have h1:=(yeg hp r [] [] [] h ⟨rfl,fun x hx=>by simp at hx,fun x hx=>by simp at hx,fun x hx=>by simp at hx⟩ ch).1
 have h2:ncl n (fun x=>m.getD x.toNat 0) (bST m [] [] [] ch)=cirS m n ch:=by
  have hi:=ydp hp.ok hp.inv hp.ne ch
  have e:bST m [] [] [] ch=fun x=>jnB (ch (x/4).toNat) x:=by
   funext x
   simp [bST,ndF]
  rw [e]
  exact yhu (yhv hi) (y0g hp.ok hp.inv hp.ne)
 rw [h2,hl] at h1
 simp only [List.length_nil] at h1
 omega
theorem y3d {r:List Nat} (hn:r.Nodup) (hl:r.length=n) (hr: ∀c∈r,c<n) (hn0:0<n) (e:Int):finR m r [] [] (fun x=>if x=0 then 1 else 0) e=brT m n 0 1 e:=by
 have hS:=Stg.init (m:=m) hn hl hr
 have hp':=ysq hn hl hr
 rw [yql hp r [] [] [] hS ⟨rfl,fun x hx=>by simp at hx,fun x hx=>by simp at hx,fun x hx=>by simp at hx⟩ _ e (fun _=>false)]
 rw [yzo _ hp',yqk]
 unfold brT hrT
 refine yc3 fun k hk=>?_
 rw [yqm hp _ hS hl,y3c hp',y0r,yjn]
 have hsp:spR r=1:=by cases r with
  |nil=>simp at hl;omega
  |cons _ _=>rfl
 have e1:cirS m n (fun c=>if c<n then chB k c else false)=cirS m n (chB k):=by unfold cirS;rw [yir fun c hc=>if_pos hc]
 have e2:difS false (fun c=>if c<n then chB k c else false) n=cntB k n:=by rw [ykx];exact ymb fun c hc=>if_pos hc
 have:=ykw hp (chB k) hn0
 rw [hsp,e1,e2]
 unfold cN wB
 rw [if_pos (by omega),Nat.add_zero]
def nmR (m:List Int):List Nat->List Int->List Nat->Nat
 |[],_,_=>1
 |c::r,ends,T=>2^ccN m ends c T false*nmR m r (endL m ends c) (nxT m ends c T false)+2^ccN m ends c T true*nmR m r (endL m ends c) (nxT m ends c T true)
omit hp in
theorem yjo (m:List Int): ∀(r:List Nat) (ends:List Int) (T:List Nat),1<=nmR m r ends T
 |[],_,_=>Nat.le_refl _
 |c::r,ends,T=>by
  have h1:=yjo m r (endL m ends c) (nxT m ends c T false)
  have h2:1<=2^ccN m ends c T false:=Nat.one_le_two_pow
  have:=Nat.mul_le_mul h2 h1
  simp only [nmR];omega
omit hp in
theorem y5b (P:List Nat) (ends:List Int) (T:List Nat) (ch:Nat->Bool) (c:Nat) (b:Bool) (h:c∈P):bST m P ends T (upB ch c b)=bST m P ends T ch:=by
 funext x
 unfold bST
 split
 ·rfl
 ·split
  ·rfl
  ·rename_i hn
   have:(x/4).toNat≠c:=fun e=>hn (e▸h)
   simp only [upB,if_neg this]
theorem ywn: ∀(r:List Nat) (P:List Nat) (ends:List Int) (T:List Nat),Stg m n P ends r->ybp T ends.length-> ∀M:Nat,(∀ch,kRm m n P ends T r ch<=M)->nmR m r ends T<=2^(r.length+M)
 |[],P,ends,T,h,hT,M,hM=>Nat.one_le_two_pow
 |c::r,P,ends,T,h,hT,M,hM=>by
  have h1:=h.dj c (List.mem_cons_self ..)
  have hs:=h.step hp
  have key: ∀b:Bool,2^ccN m ends c T b*nmR m r (endL m ends c) (nxT m ends c T b)<=2^(r.length+M):=fun b=>by
   have q1:=(yb2 hp h.he hT h1.2 h1.1 (fun _=>b)).1
   have hk: ∀ch,kRm m n (c::P) (endL m ends c) (nxT m ends c T b) r ch+ccN m ends c T b<=M:=fun ch=>by
    have e1:=(yeg hp (c::r) P ends T h hT (upB ch c b)).2.2.2 c r rfl
    have e2:upB ch c b c=b:=if_pos rfl
    have e3:kRm m n (c::P) (endL m ends c) (nxT m ends c T b) r (upB ch c b)=kRm m n (c::P) (endL m ends c) (nxT m ends c T b) r ch:=by
     unfold kRm;rw [y5b _ _ _ _ _ _ (List.mem_cons_self ..)]
    rw [e2,e3] at e1
    have:=hM (upB ch c b)
    omega
   have hM0:=hk (fun _=>false)
   have ih:=ywn r _ _ _ hs q1 (M-ccN m ends c T b) fun ch=>by have:=hk ch;omega
   refine Nat.le_trans (Nat.mul_le_mul_left _ ih) ?_
   rw [←Nat.pow_add]
   exact Nat.pow_le_pow_right (by omega) (by omega)
  have kf:=key false
  have kt:=key true
  simp only [nmR,List.length_cons]
  have:2^(r.length+1+M)=2^(r.length+M)+2^(r.length+M):=by rw [Nat.add_right_comm,Nat.pow_succ];omega
  omega
theorem yzp {r:List Nat} (hn:r.Nodup) (hl:r.length=n) (hr: ∀c∈r,c<n):nmR m r [] []<=2^(3*n):=by
 have hS:=Stg.init (m:=m) hn hl hr
 have:=ywn hp r [] [] [] hS ⟨rfl,fun x hx=>by simp at hx,fun x hx=>by simp at hx,fun x hx=>by simp at hx⟩ (2*n) fun ch=>by
  rw [yqm hp ch hS hl];exact yc4 hp ch
 rw [hl] at this
 rwa [show 3*n=n+2*n by omega]
end
end Go.Proofs.YtmdjdekgakidhaaDoor
