/- Plain: the outermost coefficients of the bracket of an adequate diagram. -/
import Derived.Test.YtngegnonblbdhaaDoorZh
import Derived.Test.YtngegnonblbdhaaDoorZn
import Derived.Test.YtngegnonblbdhaaDoorZb
namespace Go.Proofs.YtngegnonblbdhaaDoor
set_option linter.unusedSimpArgs false
set_option linter.unusedVariables false
def AdqS (m:List Int) (n:Nat) (b:Bool):Prop:= ∀c,c<n->(mgB m (fun _=>b) n).getD (4*c) 0≠(mgB m (fun _=>b) n).getD (4*c+2) 0
section
variable {m:List Int} {n:Nat} (hp:PmOk m n)
include hp
theorem yun {ch ch':Nat->Bool} {c:Nat} (hc:c<n) (h: ∀x,x≠c->ch x=ch' x) (hcc:ch c≠ch' c) (ha:(mgB m ch n).getD (4*c) 0≠(mgB m ch n).getD (4*c+2) 0):cirS m n ch'+1=cirS m n ch:=by
 obtain ⟨K,t0,_,h3,h4⟩:=yn0 (c:=c) (j:=fun t=>st3 (fun x=>if x=c then t else nb01 (ch x))) hc (fun t _=>ydt hp.ok hp.inv hp.ne _) (fun t _=>yxv _)
  (fun t _ x hx=>by simp only [st3];rw [if_pos (by omega)])
  (fun t _ x h0 hx=>by
   simp only [st3]
   rw [if_neg (by omega),if_neg (by omega)]) (fun t _=>yfm hp _)
 have e1:(fun x=>nb01 (ch x))=fun x=>if x=c then nb01 (ch c) else nb01 (ch x):=by
  funext x;by_cases e:x=c
  ·rw [if_pos e,e]
  ·rw [if_neg e]
 have e2:(fun x=>nb01 (ch' x))=fun x=>if x=c then nb01 (ch' c) else nb01 (ch x):=by
  funext x;by_cases e:x=c
  ·rw [if_pos e,e]
  ·rw [if_neg e,h x e]
 have l01: ∀b,nb01 b<3:=fun b=>by cases b<;>decide
 have l02:nb01 (ch' c)≠nb01 (ch c):=by
  revert hcc
  cases ch c<;>cases ch' c<;>decide
 have q:cir3 m n (fun x=>if x=c then nb01 (ch c) else nb01 (ch x))=_:=h3 _ (l01 (ch c))
 have q':cir3 m n (fun x=>if x=c then nb01 (ch' c) else nb01 (ch x))=_:=h3 _ (l01 (ch' c))
 have ht:nb01 (ch c)=t0:=by
  refine Classical.byContradiction fun ht=>ha ?_
  have h5:=h4 _ (l01 _) ht (4*c+2) (by omega) (by omega)
  have A:=ygg hp ch
  have B:=yfm hp (fun x=>if x=c then nb01 (ch c) else nb01 (ch x))
  have h6:=(B.iff (4*c) (4*c+2) (by omega) (by omega)).1 h5
  rw [←e1] at h6
  exact (A.iff (4*c) (4*c+2) (by omega) (by omega)).2 h6
 rw [yd4 hp,yd4 hp,e1,e2,q,q',if_pos ht,if_neg (by rw [←ht];exact l02)]
theorem yqp {b:Bool} (ha:AdqS m n b) (ch:Nat->Bool): ∀i,i<=n->difS b ch i=0/\(∀c,c<i->ch c=b)\/cirS m n (fun c=>if c<i then ch c else b)+2<=cirS m n (fun _=>b)+difS b ch i
 |0,_=> .inl ⟨rfl,fun c h=>by omega⟩
 |i+1,hi=>by
  have ih:=yqp ha ch i (by omega)
  simp only [difS]
  by_cases hb:ch i=b
  ·rw [if_pos hb]
   have:(fun c=>if c<i+1 then ch c else b)=fun c=>if c<i then ch c else b:=by
    funext c
    by_cases e:c=i
    ·subst e;rw [if_pos (by omega),if_neg (by omega),hb]
    ·by_cases e2:c<i
     ·rw [if_pos (by omega),if_pos e2]
     ·rw [if_neg (by omega),if_neg e2]
   rw [this]
   rcases ih with ⟨h1,h2⟩|h
   ·exact .inl ⟨by omega,fun c hc=>by
     by_cases e:c=i
     ·subst e;exact hb
     ·exact h2 c (by omega)⟩
   ·exact .inr (by omega)
  ·rw [if_neg hb]
   right
   rcases ih with ⟨h1,h2⟩|h
   ·have:=yun hp (c:=i) (by omega) (ch:=fun _=>b) (ch':=fun c=>if c<i+1 then ch c else b) (fun x hx=>by
     by_cases e2:x<i
     ·rw [if_pos (by omega),h2 x e2]
     ·rw [if_neg (by omega)]) (by rw [if_pos (by omega)];exact fun e=>hb e.symm) (ha i (by omega))
    omega
   ·have:=yn9 hp (c:=i) (by omega) (ch:=fun c=>if c<i+1 then ch c else b) (ch':=fun c=>if c<i then ch c else b) fun x hx=>by
     by_cases e2:x<i
     ·rw [if_pos (by omega),if_pos e2]
     ·rw [if_neg (by omega),if_neg e2]
    omega
theorem yuo {b:Bool} (ha:AdqS m n b) {ch:Nat->Bool} (h0:difS b ch n≠0):cirS m n ch+2<=cirS m n (fun _=>b)+difS b ch n:=by
 rcases yqp hp ha ch n (Nat.le_refl _) with ⟨h,_⟩|h
 ·exact absurd h h0
 ·have e:cirS m n (fun c=>if c<n then ch c else b)=cirS m n ch:=by
   unfold cirS;rw [ydw fun c hc=>by rw [if_pos hc]]
  omega
end
theorem yqq: ∀j:Nat,dpw j (2*(j:Int))≠0
 |0=>by simp [dpw]
 |j+1=>by
  have h1:dpw j (2*((j+1:Nat):Int)+2)=0:=Classical.byContradiction fun h=>by have:=ydh j _ h;omega
  simp only [dpw,dml,h1]
  rw [show 2*((j+1:Nat):Int)-2=2*(j:Int) by omega]
  have:=yqq j
  omega
theorem yqr: ∀j:Nat,dpw j (-(2*(j:Int)))≠0
 |0=>by simp [dpw]
 |j+1=>by
  have h1:dpw j (-(2*((j+1:Nat):Int))-2)=0:=Classical.byContradiction fun h=>by have:=ydh j _ h;omega
  simp only [dpw,dml,h1]
  rw [show-(2*((j+1:Nat):Int))+2= -(2*(j:Int)) by omega]
  have:=yqr j
  omega
theorem yup: ∀{n k:Nat},k<2^n->difS false (chB k) n=0->k=0
 |0,k,h,_=>by rw [Nat.pow_zero] at h;omega
 |n+1,k,h,hd=>by
  simp only [difS] at hd
  have hb:chB k n=false:=by
   cases hc:chB k n with
   |false=>rfl
   |true=>rw [hc] at hd;simp at hd
  have h1:k/2^n<2:=by
   rw [Nat.div_lt_iff_lt_mul (Nat.pow_pos (by omega))]
   rw [Nat.pow_succ] at h;omega
  have h2:k/2^n % 2≠1:=by simpa [chB] using hb
  have h3:k/2^n=0:=by
   generalize k/2^n=q at h1 h2⊢
   omega
  exact yup (Nat.lt_of_div_eq_zero (Nat.pow_pos (by omega)) h3) (by omega)
theorem yuq: ∀{n k:Nat},difS true (chB k) n=0->k % 2^n=2^n-1
 |0,k,_=>by simp only [Nat.pow_zero];omega
 |n+1,k,hd=>by
  simp only [difS] at hd
  have hb:chB k n=true:=by
   cases hc:chB k n with
   |true=>rfl
   |false=>rw [hc] at hd;simp at hd
  have h2:k/2^n % 2=1:=by simpa [chB] using hb
  have ih:=yuq (n:=n) (k:=k) (by omega)
  have hp:0<2^n:=Nat.pow_pos (by omega)
  rw [Nat.pow_succ,Nat.mod_mul,ih,h2]
  omega
theorem y3h (n:Nat):difS false (chB 0) n=0:=by
 rw [←ydi]
 induction n with
 |zero=>rfl
 |succ n ih=>simp only [cntB,ih,Nat.zero_div]
theorem you: ∀n c,c<n->chB (2^n-1) c=true:=by
 intro n c hc
 unfold chB
 rw [beq_iff_eq]
 obtain ⟨d,rfl⟩: ∃d,n=c+1+d:=⟨n-(c+1),by omega⟩
 have hp:0<2^c:=Nat.pow_pos (by omega)
 have hd:0<2^d:=Nat.pow_pos (by omega)
 have e:2^(c+1+d)-1=(2*2^d-1)*2^c+(2^c-1):=by
  rw [Nat.pow_add,Nat.pow_succ,Nat.sub_mul,Nat.one_mul,show 2^c*2*2^d=2*2^d*2^c by rw [Nat.mul_comm (2^c) 2,Nat.mul_assoc,Nat.mul_comm (2^c) (2^d),Nat.mul_assoc]]
  have:2^c<=2*2^d*2^c:=Nat.le_mul_of_pos_left _ (by omega)
  omega
 rw [e,Nat.mul_comm,Nat.mul_add_div hp,Nat.div_eq_of_lt (a:=2^c-1) (by omega)]
 omega
theorem ymd {b:Bool} {ch:Nat->Bool}: ∀{n:Nat},(∀c,c<n->ch c=b)->difS b ch n=0
 |0,_=>rfl
 |n+1,h=>by simp only [difS,ymd (n:=n) fun c hc=>h c (by omega),h n (by omega),if_true]
section
variable {m:List Int} {n:Nat} (hp:PmOk m n)
include hp
theorem y0p (hn:0<n) (ha:AdqS m n false):brT m n 0 1 ((n:Int)+2*cirS m n (fun _=>false)-2)≠0:=by
 have hc0:cN m n 0 0=cirS m n (fun _=>false):=by
  unfold cN
  rw [Nat.add_zero]
  unfold cirS
  rw [ydw (ch:=chB 0) (ch':=fun _=>false) fun c hc=>by simp [chB]]
 have hw0:wB n 0=n:=by unfold wB;rw [ydi,y3h];omega
 have pos:=yjl hp (fun _=>false) hn
 unfold brT hrT
 rw [ygh (a:=0) (Nat.pow_pos (by omega)) fun k hk hne=>?_]
 ·rw [hc0,hw0,if_pos pos]
  have:=yqq (cirS m n (fun _=>false)-1)
  rw [show (n:Int)+2*cirS m n (fun _=>false)-2-n=2*((cirS m n (fun _=>false)-1:Nat):Int) by omega]
  exact this
 ·split
  ·refine Classical.byContradiction fun h=>?_
   have h1:=ydh _ _ h
   have h2:=yuo hp ha (ch:=chB k) fun e=>hne (yup hk e)
   have h3:=ydi k n
   unfold wB cN at h1
   omega
  ·rfl
theorem y0q (hn:0<n) (ha:AdqS m n true):brT m n 0 1 (-(n:Int)-2*cirS m n (fun _=>true)+2)≠0:=by
 have hP:0<2^n:=Nat.pow_pos (by omega)
 have hc0:cN m n 0 (2^n-1)=cirS m n (fun _=>true):=by
  unfold cN
  rw [Nat.add_zero]
  unfold cirS
  rw [ydw (ch:=chB (2^n-1)) (ch':=fun _=>true) fun c hc=>you n c hc]
 have hd:=ymd (b:=true) (ch:=chB (2^n-1)) (n:=n) fun c hc=>you n c hc
 have ht:=yfn (chB (2^n-1)) n
 have hw0:wB n (2^n-1)= -(n:Int):=by unfold wB;rw [ydi];omega
 have pos:=yjl hp (fun _=>true) hn
 unfold brT hrT
 rw [ygh (a:=2^n-1) (by omega) fun k hk hne=>?_]
 ·rw [hc0,hw0,if_pos pos]
  have:=yqr (cirS m n (fun _=>true)-1)
  rw [show-(n:Int)-2*cirS m n (fun _=>true)+2- -(n:Int)= -(2*((cirS m n (fun _=>true)-1:Nat):Int)) by omega]
  exact this
 ·split
  ·refine Classical.byContradiction fun h=>?_
   have h1:=ydh _ _ h
   have h2:=yuo hp ha (ch:=chB k) fun e=>hne (by have:=yuq e;rw [Nat.mod_eq_of_lt hk] at this;exact this)
   have h3:=ydi k n
   have h4:=yfn (chB k) n
   unfold wB cN at h1
   omega
  ·rfl
end
end Go.Proofs.YtngegnonblbdhaaDoor
namespace Go.Proofs.YtngegnonblbdhaaDoor
set_option linter.unusedSimpArgs false
set_option linter.unusedVariables false
open Classical
def sgm (b:Bool) (x:Nat):Bool:=x % 2==nb01 b
theorem yed {b:Bool} {x:Nat}:sgm b x=true↔x % 2=nb01 b:=by unfold sgm;simp
theorem y0r {b:Bool} {x:Nat}:sgm b x= !sgm (!b) x:=by
 rcases Nat.mod_two_eq_zero_or_one x with h|h<;>cases b<;>simp [sgm,nb01,h]
theorem jS_b (b:Bool) (x:Nat):jS (fun _=>nb01 b) x % 2≠x % 2/\(x % 2≠nb01 b->jS (fun _=>nb01 b) x=Sp.siD x):=by
 obtain ⟨v1,v2,v3,v4,v5,v6,v7,v8,_⟩:=yci ((x/4:Nat):Int)
 have h0:=ycb (fun _=>nb01 b) x
 unfold st3 at h0
 have e:x=4*(x/4)\/x=4*(x/4)+1\/x=4*(x/4)+2\/x=4*(x/4)+3:=by omega
 generalize x/4=c at*
 unfold Sp.siD
 rcases e with rfl|rfl|rfl|rfl
 ·rw [show ((4*c:Nat):Int)=4*(c:Int) by omega] at h0
  cases b
  ·rw [show nb01 false=0 from rfl,v1] at h0;rw [show nb01 false=0 from rfl];omega
  ·rw [show nb01 true=1 from rfl,v5] at h0;rw [show nb01 true=1 from rfl];omega
 ·rw [show ((4*c+1:Nat):Int)=4*(c:Int)+1 by omega] at h0
  cases b
  ·rw [show nb01 false=0 from rfl,v2] at h0;rw [show nb01 false=0 from rfl];omega
  ·rw [show nb01 true=1 from rfl,v6] at h0;rw [show nb01 true=1 from rfl];omega
 ·rw [show ((4*c+2:Nat):Int)=4*(c:Int)+2 by omega] at h0
  cases b
  ·rw [show nb01 false=0 from rfl,v3] at h0;rw [show nb01 false=0 from rfl];omega
  ·rw [show nb01 true=1 from rfl,v7] at h0;rw [show nb01 true=1 from rfl];omega
 ·rw [show ((4*c+3:Nat):Int)=4*(c:Int)+3 by omega] at h0
  cases b
  ·rw [show nb01 false=0 from rfl,v4] at h0;rw [show nb01 false=0 from rfl];omega
  ·rw [show nb01 true=1 from rfl,v8] at h0;rw [show nb01 true=1 from rfl];omega
section
variable {m:List Int} {n:Nat} (hp:PmOk m n) (ha: ∀x,x<4*n->Sp.alD m x % 2≠x % 2)
include hp ha
omit hp in
theorem yij (b:Bool):Flp m n (sgm b) fun _=>nb01 b:=by
 have key: ∀x y:Nat,y % 2≠x % 2->sgm b y= !sgm b x:=fun x y h=>by
  rcases Nat.mod_two_eq_zero_or_one x with h1|h1<;>rcases Nat.mod_two_eq_zero_or_one y with h2|h2<;>cases b<;>simp [sgm,nb01,h1,h2]<;>omega
 exact ⟨fun x hx=>key _ _ (ha x hx),fun x hx=>key _ _ (jS_b b x).1⟩
theorem y2d (b:Bool) {x:Nat} (hx:x<4*n) (cx:sgm b x=true):pF m (sgm b) (fun _=>nb01 b) x=Sp.phK Sp.siD (Sp.alD m) (4*n) x:=by
 have hm:=(ycc hp).mat
 rw [Sp.ph_N hm hx]
 unfold pF
 rw [if_pos cx]
 refine (jS_b b _).2 fun e=>ha x hx ?_
 rw [e,←yed.1 cx]
theorem yov (b:Bool): ∀k x,x<4*n->sgm b x=true->Sp.itn (pF m (sgm b) fun _=>nb01 b) k x=Sp.itn (Sp.phK Sp.siD (Sp.alD m) (4*n)) k x/\Sp.itn (pF m (sgm b) fun _=>nb01 b) k x<4*n/\sgm b (Sp.itn (pF m (sgm b) fun _=>nb01 b) k x)=true:=by
 have hf:=yij (m:=m) (n:=n) ha b
 have hP:=yc4 hp hf
 have hm:=(ycc hp).mat
 intro k
 induction k with
 |zero=>exact fun x hx cx=>⟨rfl,hx,cx⟩
 |succ k ih=>
  intro x hx cx
  obtain ⟨h1,h2,h3⟩:=ih x hx cx
  refine ⟨?_,hP.lt _ h2,?_⟩
  ·simp only [Sp.itn]
   rw [y2d hp ha b h2 h3,h1]
  ·simp only [Sp.itn]
   generalize Sp.itn (pF m (sgm b) fun _=>nb01 b) k x=y at h2 h3
   unfold pF
   rw [if_pos h3,hf.jn _ (hm.lt y h2),hf.mt y h2,h3];rfl
theorem ygm (b:Bool) {x y:Nat} (hx:x<4*n) (cx:sgm b x=true):Sp.SC (pF m (sgm b) fun _=>nb01 b) x y↔Sp.SC (Sp.phK Sp.siD (Sp.alD m) (4*n)) x y:=by
 constructor
 ·rintro ⟨k,hk⟩;exact ⟨k,by rw [←(yov hp ha b k x hx cx).1];exact hk⟩
 ·rintro ⟨k,hk⟩;exact ⟨k,by rw [(yov hp ha b k x hx cx).1];exact hk⟩
theorem y0s (hS:Sp.Sph (4*n) Sp.siD (Sp.alD m)) (hn:0<n) (hc: ∀x y,x<4*n->y<4*n->Sp.KK Sp.siD (Sp.alD m) (4*n) x y):cirS m n (fun _=>false)+cirS m n (fun _=>true)=n+2:=by
 have hm:=(ycc hp).mat
 have f0:=yij (m:=m) (n:=n) ha false
 have f1:=yij (m:=m) (n:=n) ha true
 obtain ⟨l0,h0⟩:=Sp.Tr.exists (Sp.SC.eqv (yc4 hp f0)) fun x=>sgm false x=true
 obtain ⟨l1,h1⟩:=Sp.Tr.exists (Sp.SC.eqv (yc4 hp f1)) fun x=>sgm true x=true
 have c0:=yg8 hp f0 h0
 have c1:=yg8 hp f1 h1
 have e0:cirS m n (fun _=>false)=cir3 m n (fun _=>nb01 false):=yd4 hp _
 have e1:cirS m n (fun _=>true)=cir3 m n (fun _=>nb01 true):=yd4 hp _
 have par: ∀x,sgm false x=true->sgm true x=true->False:=fun x h h'=>by
  have:=yed.1 h
  have:=yed.1 h'
  simp only [nb01] at*;simp at*;omega
 have stay: ∀b x y,x<4*n->sgm b x=true->Sp.SC (Sp.phK Sp.siD (Sp.alD m) (4*n)) x y->sgm b y=true:=fun b x y hx cx ⟨k,hk⟩=>by
  have:=yov hp ha b k x hx cx
  rw [←hk,←this.1];exact this.2.2
 have hF:Sp.Tr (4*n) (Sp.KK Sp.siD (Sp.alD m) (4*n) 0) (Sp.SC (Sp.phK Sp.siD (Sp.alD m) (4*n))) (l0++l1):=by
  refine ⟨fun x hx=>?_,?_,fun x hx y hy e=>?_,fun x hx _=>?_⟩
  ·have hx4:x<4*n:=by
    rcases List.mem_append.1 hx with h|h
    ·exact (h0.mem x h).1
    ·exact (h1.mem x h).1
   exact ⟨hx4,hc 0 x (by omega) hx4⟩
  ·rw [List.nodup_append]
   refine ⟨h0.nodup,h1.nodup,fun x hx y hy e=>?_⟩
   subst e
   exact par x (h0.mem x hx).2 (h1.mem x hy).2
  ·rcases List.mem_append.1 hx with h|h<;>rcases List.mem_append.1 hy with h'|h'
   ·exact h0.apart x h y h' ((ygm hp ha false (h0.mem x h).1 (h0.mem x h).2).2 e)
   ·exact absurd (h1.mem y h').2 fun q=>par y (stay false x y (h0.mem x h).1 (h0.mem x h).2 e) q
   ·exact absurd (h0.mem y h').2 fun q=>par y q (stay true x y (h1.mem x h).1 (h1.mem x h).2 e)
   ·exact h1.apart x h y h' ((ygm hp ha true (h1.mem x h).1 (h1.mem x h).2).2 e)
  ·by_cases cx:sgm false x=true
   ·obtain ⟨y,hy,hxy⟩:=h0.all x hx cx
    exact ⟨y,List.mem_append_left _ hy,(ygm hp ha false hx cx).1 hxy⟩
   ·have cx':sgm true x=true:=by rw [y0r];simpa using cx
    obtain ⟨y,hy,hxy⟩:=h1.all x hx cx'
    exact ⟨y,List.mem_append_right _ hy,(ygm hp ha true hx cx').1 hxy⟩
 have hV:Sp.Tr (4*n) (Sp.KK Sp.siD (Sp.alD m) (4*n) 0) (Sp.SC Sp.siD) ((List.range n).map (4* ·)):=by
  refine ⟨fun x hx=>?_,yd3 (fun x _ y _ e=>by omega) List.nodup_range,fun x hx y hy e=>?_,fun x hx _=>?_⟩
  ·obtain ⟨c,hc',rfl⟩:=List.mem_map.1 hx
   have:=List.mem_range.1 hc'
   exact ⟨by omega,hc _ _ (by omega) (by omega)⟩
  ·obtain ⟨c,_,rfl⟩:=List.mem_map.1 hx
   obtain ⟨c',_,rfl⟩:=List.mem_map.1 hy
   have:=Sp.siD_sc.1 e
   omega
  ·exact ⟨4*(x/4),List.mem_map.2 ⟨x/4,List.mem_range.2 (by omega),rfl⟩,Sp.siD_sc.2 (by omega)⟩
 have eq:=hS.eq 0 (by omega) _ _ hV hF
 have eE:=Sp.eU_card hm (U:=Sp.KK Sp.siD (Sp.alD m) (4*n) 0) fun x hx=>⟨fun _=>hc _ _ (by omega) (hm.lt x hx),fun _=>hc _ _ (by omega) hx⟩
 have eC:Sp.cU (Sp.KK Sp.siD (Sp.alD m) (4*n) 0) (4*n)=4*n:=by
  have h2: ∀k,Sp.cU (fun _=>True) k=k:=fun k=>by
   induction k with
   |zero=>simp [Sp.cU]
   |succ k ih=>rw [Sp.cU_succ,ih,if_pos trivial]
  rw [Sp.cU_congr (W:=fun _=>True) fun x hx=>⟨fun _=>trivial,fun _=>hc _ _ (by omega) hx⟩,h2]
 rw [List.length_append,List.length_map,List.length_range] at eq
 omega
theorem yqs (hr: ∀c,c<n-> ¬Sp.SC (Sp.phK Sp.siD (Sp.alD m) (4*n)) (4*c) (4*c+2)/\ ¬Sp.SC (Sp.phK Sp.siD (Sp.alD m) (4*n)) (4*c+1) (4*c+3)): ∀b,AdqS m n b:=by
 intro b c hc e
 have hf:=yij (m:=m) (n:=n) ha b
 have hi:=ydt hp.ok hp.inv hp.ne (fun _=>nb01 b)
 have h1:Cir (fun x=>m.getD x.toNat 0) (st3 fun _=>nb01 b) ((4*c:Nat):Int) ((4*c+2:Nat):Int):=((ygg hp (fun _=>b)).iff (4*c) (4*c+2) (by omega) (by omega)).1 e
 cases b with
 |false=>
  have cx:sgm false (4*c)=true:=yed.2 (by simp only [nb01];simp;omega)
  have cy:sgm false (4*c+2)=true:=yed.2 (by simp only [nb01];simp;omega)
  exact (hr c hc).1 ((ygm hp ha false (by omega) cx).1 ((ymu hp hf (by omega) (by omega) cx).2 ⟨h1,cy⟩))
 |true=>
  have cx:sgm true (4*c+1)=true:=yed.2 (by simp only [nb01];simp;omega)
  have cy:sgm true (4*c+3)=true:=yed.2 (by simp only [nb01];simp;omega)
  obtain ⟨_,_,_,_,v5,v6,v7,v8,_⟩:=yci (c:Int)
  have j1:st3 (fun _=>nb01 true) ((4*c+1:Nat):Int)=((4*c+2:Nat):Int):=by
   unfold st3;rw [show nb01 true=1 from rfl,show ((4*c+1:Nat):Int)=4*(c:Int)+1 by omega,v6];omega
  have j2:st3 (fun _=>nb01 true) ((4*c:Nat):Int)=((4*c+3:Nat):Int):=by
   unfold st3;rw [show nb01 true=1 from rfl,show ((4*c:Nat):Int)=4*(c:Int) by omega,v5];omega
  have k1:Cir (fun x=>m.getD x.toNat 0) (st3 fun _=>nb01 true) ((4*c+1:Nat):Int) ((4*c+2:Nat):Int):=by rw [←j1];exact .join (.refl _)
  have k2:=k1.trans (h1.symm hi (by unfold InR;omega))
  have k3:Cir (fun x=>m.getD x.toNat 0) (st3 fun _=>nb01 true) ((4*c+1:Nat):Int) ((4*c+3:Nat):Int):=by rw [←j2];exact .join k2
  exact (hr c hc).2 ((ygm hp ha true (by omega) cx).1 ((ymu hp hf (by omega) (by omega) cx).2 ⟨k3,cy⟩))
end
theorem yqt {s m:List Int} {L:Int} (hv:yao s m L=true) (hn:0<s.length) (hc: ∀x y,x<4*s.length->y<4*s.length->Sp.KK Sp.siD (Sp.alD m) (4*s.length) x y) {p:List (Int×Int)} (hA:AscN p) (hf: ∀e,cfL p e=brT m s.length 0 1 e) (h0:0<p.length):
  ya6 p-lowE p<=4*(s.length:Int):=by
 have hp:=pmOk hv
 have h2:=y0o hv hn hc
 have r:=yqf hA hf fun e he=>ydj hp he
 have r0:=r _ (ybw (i:=0) h0)
 have r1:=r _ (ybw (i:=p.length-1) (by omega))
 have e0:lowE p=(p.getD 0 (0,0)).1:=rfl
 have e1:ya6 p=(p.getD (p.length-1) (0,0)).1:=rfl
 rw [←e0] at r0
 rw [←e1] at r1
 omega
theorem y0t {s m:List Int} {L:Int} (hv:yao s m L=true) (hn:0<s.length) (hc: ∀x y,x<4*s.length->y<4*s.length->Sp.KK Sp.siD (Sp.alD m) (4*s.length) x y) (ha: ∀x,x<4*s.length->Sp.alD m x % 2≠x % 2)
  (hr: ∀c,c<s.length-> ¬Sp.SC (Sp.phK Sp.siD (Sp.alD m) (4*s.length)) (4*c) (4*c+2)/\ ¬Sp.SC (Sp.phK Sp.siD (Sp.alD m) (4*s.length)) (4*c+1) (4*c+3)) {p:List (Int×Int)} (hA:AscN p) (hf: ∀e,cfL p e=brT m s.length 0 1 e) (h0:0<p.length):
  ya6 p-lowE p=4*(s.length:Int):=by
 have hp:=pmOk hv
 have h1:=yqt hv hn hc hA hf h0
 have hS:=(ycc hp).sph.1 (Sp.dia_of hv).2
 have h2:=y0s hp ha hS hn hc
 have hq:=yqs hp ha hr
 have t1:=y0p hp hn (hq false)
 have t2:=y0q hp hn (hq true)
 rw [←hf] at t1 t2
 obtain ⟨u,hu,eu⟩:=ykh t1
 obtain ⟨w,hw,ew⟩:=ykh t2
 have b1:=ydv hA hu
 have b2:=ydv hA hw
 omega
theorem yxk {m:List Int} {n:Nat} (hp:PmOk m n) (h1:(yah m n).2<=1) {x y:Nat} (hx:x<4*n) (hy:y<4*n):Sp.KK Sp.siD (Sp.alD m) (4*n) x y:=by
 have hD:=ycc hp
 refine (hD.conn hx hy).2 ((ygz hD.prd (by omega) (by omega)).1 ?_)
 have a:=yfh hp.ok n (Nat.le_refl _) (x/4) (by omega)
 have b:=yfh hp.ok n (Nat.le_refl _) (y/4) (by omega)
 unfold yah at*
 omega
end Go.Proofs.YtngegnonblbdhaaDoor
namespace Go.Proofs.YtngegnonblbdhaaDoor
open Go Go.RowKit
set_option maxRecDepth 100000
set_option maxHeartbeats 8000000
set_option linter.unusedVariables false
set_option linter.unusedSimpArgs false
theorem Wk.subG {fr fr':Fr} {H H':Hp} (hf: ∀t,fget fr' t= .any\/(fget fr' t=fget fr t/\s3 H' (fget fr' t)=true)) (hh: ∀i o,hget H' i=some o->hget H i=some o/\sO H' o=true):Wk fr H fr' H':=by
 intro B w0 Mx N w ρ a hs
 refine ⟨ρ,(hs.weaken (fun id o ho=>(hh id o ho).1) (fun t=>(hf t).imp id (·.1)) (fun id o ho M hr=>?_) (fun t M v hv=>?_))⟩
 ·have hso:=(hh id o ho).2
  cases o with
  |gone=>trivial
  |cells t c=>
   obtain ⟨k1,arr,k2,k3,k4⟩:=hr
   refine ⟨k1,arr,k2,k3,fun j hj=>?_⟩
   obtain ⟨u,hu,hv⟩:=k4 j hj
   refine ⟨u,hu,?_⟩
   cases c with
   |ints l=>exact hv.pure1 rfl
   |bools l=>exact hv.pure1 rfl
   |lst l=>
    simp only [Cs.len] at hj
    simp only [Cs.get,List.getD_eq_getElem?_getD,List.getElem?_eq_getElem hj,Option.getD_some] at hv⊢
    exact hv.sc3 (List.all_eq_true.1 hso _ (List.getElem_mem hj))
  |gmap t ck l=>
   obtain ⟨es,k1,k2,k3⟩:=hr
   exact ⟨es,k1,k2,fun j e q he hl=>let ⟨g1,g2,g3⟩:=k3 j e q he hl;⟨g1,g2,g3.sc3 (List.all_eq_true.1 hso q (List.mem_of_getElem? hl))⟩⟩
  |iter mid s sn la=>
   obtain ⟨_,k2,k3⟩:=hr
   exact ⟨Option.isSome_iff_exists.1 hso,k2,k3⟩
  |imap t l=>
   obtain ⟨k0,es,ck,k1,k2,k3⟩:=hr
   exact ⟨k0,es,ck,k1,k2,fun j e k x he hl=>let ⟨g1,g2,g3⟩:=k3 j e k x he hl;⟨g1,g2.sc3 (List.all_eq_true.1 hso (k,x) (List.mem_of_getElem? hl)),g3⟩⟩
  |fmap t c=>exact hr
 ·rcases hf t with e|⟨_,e⟩
  ·rw [e];exact .any _
  ·exact hv.sc3 e
theorem ydx {H H':Hp} (hm: ∀k,(hget H k).isSome=true->(hget H' k).isSome=true): ∀(x:AV),s1 H x=true->s1 H' x=true
 | .ptr i _,h=>hm i h
 | .sl _ i _ _,h=>hm i h
 | .mp i,h=>hm i h
 | .agg _,h=>h
 | .tup _,h=>h
 | .fn _ _,h=>h
 | .any,h=>h
 | .int _ _,h=>h
 | .bool _,h=>h
 | .str _,h=>h
 | .nils,h=>h
 | .ro _ _ _,h=>h
 | .rp _ _,h=>h
theorem ylj {H H':Hp} (hm: ∀k,(hget H k).isSome=true->(hget H' k).isSome=true): ∀(x:AV),s2 H x=true->s2 H' x=true
 | .ptr i o,h=>ydx hm (.ptr i o) h
 | .sl e i o l,h=>ydx hm (.sl e i o l) h
 | .mp i,h=>ydx hm (.mp i) h
 | .agg xs,h=>List.all_eq_true.2 fun y hy=>ydx hm y (List.all_eq_true.1 h y hy)
 | .tup _,h=>h
 | .fn _ xs,h=>List.all_eq_true.2 fun y hy=>ydx hm y (List.all_eq_true.1 h y hy)
 | .any,h=>h
 | .int _ _,h=>h
 | .bool _,h=>h
 | .str _,h=>h
 | .nils,h=>h
 | .ro _ _ _,h=>h
 | .rp _ _,h=>h
theorem yqu {H H':Hp} (hm: ∀k,(hget H k).isSome=true->(hget H' k).isSome=true): ∀(x:AV),s3 H x=true->s3 H' x=true
 | .ptr i o,h=>ydx hm (.ptr i o) h
 | .sl e i o l,h=>ydx hm (.sl e i o l) h
 | .mp i,h=>ydx hm (.mp i) h
 | .agg xs,h=>List.all_eq_true.2 fun y hy=>ylj hm y (List.all_eq_true.1 h y hy)
 | .tup xs,h=>List.all_eq_true.2 fun y hy=>ylj hm y (List.all_eq_true.1 h y hy)
 | .fn _ xs,h=>List.all_eq_true.2 fun y hy=>ylj hm y (List.all_eq_true.1 h y hy)
 | .any,h=>h
 | .int _ _,h=>h
 | .bool _,h=>h
 | .str _,h=>h
 | .nils,h=>h
 | .ro _ _ _,h=>h
 | .rp _ _,h=>h
theorem ygn {i j n:Nat} {xs:List AV} (h: ∀x∈xs,swV i j n x=x):xs.map (swV i j n)=xs:=by
 conv=>rhs;rw [←List.map_id xs]
 exact List.map_congr_left h
section
variable {O:Hp} {i j:Nat} (hi:(hget O i).isSome=false) (hj:(hget O j).isSome=false)
include hi hj
theorem ylk (k:Nat) (hk:(hget O k).isSome=true):swI i j k=k:=by
 unfold swI
 rw [if_neg (fun e=>by rw [e,hi] at hk;cases hk),if_neg (fun e=>by rw [e,hj] at hk;cases hk)]
theorem ydy (n:Nat): ∀(x:AV),s1 O x=true->swV i j (n+1) x=x
 | .ptr k o,h=>by simp only [swV,ylk hi hj k h]
 | .sl e k o l,h=>by simp only [swV,ylk hi hj k h]
 | .mp k,h=>by simp only [swV,ylk hi hj k h]
 | .agg _,h=>by cases h
 | .tup _,h=>by cases h
 | .fn _ _,h=>by cases h
 | .any,h=>rfl
 | .int _ _,h=>rfl
 | .bool _,h=>rfl
 | .str _,h=>rfl
 | .nils,h=>rfl
 | .ro _ _ _,h=>rfl
 | .rp _ _,h=>rfl
theorem yll (n:Nat): ∀(x:AV),s2 O x=true->swV i j (n+2) x=x
 | .agg xs,h=>by show AV.agg (xs.map (swV i j (n+1)))=_;rw [ygn fun y hy=>ydy hi hj n y (List.all_eq_true.1 h y hy)]
 | .tup _,h=>by cases h
 | .fn f xs,h=>by show AV.fn f (xs.map (swV i j (n+1)))=_;rw [ygn fun y hy=>ydy hi hj n y (List.all_eq_true.1 h y hy)]
 | .ptr k o,h=>ydy hi hj (n+1) (.ptr k o) h
 | .sl e k o l,h=>ydy hi hj (n+1) (.sl e k o l) h
 | .mp k,h=>ydy hi hj (n+1) (.mp k) h
 | .any,h=>rfl
 | .int _ _,h=>rfl
 | .bool _,h=>rfl
 | .str _,h=>rfl
 | .nils,h=>rfl
 | .ro _ _ _,h=>rfl
 | .rp _ _,h=>rfl
theorem y0u (n:Nat): ∀(x:AV),s3 O x=true->swV i j (n+3) x=x
 | .agg xs,h=>by show AV.agg (xs.map (swV i j (n+2)))=_;rw [ygn fun y hy=>yll hi hj n y (List.all_eq_true.1 h y hy)]
 | .tup xs,h=>by show AV.tup (xs.map (swV i j (n+2)))=_;rw [ygn fun y hy=>yll hi hj n y (List.all_eq_true.1 h y hy)]
 | .fn f xs,h=>by show AV.fn f (xs.map (swV i j (n+2)))=_;rw [ygn fun y hy=>yll hi hj n y (List.all_eq_true.1 h y hy)]
 | .ptr k o,h=>ydy hi hj (n+2) (.ptr k o) h
 | .sl e k o l,h=>ydy hi hj (n+2) (.sl e k o l) h
 | .mp k,h=>ydy hi hj (n+2) (.mp k) h
 | .any,h=>rfl
 | .int _ _,h=>rfl
 | .bool _,h=>rfl
 | .str _,h=>rfl
 | .nils,h=>rfl
 | .ro _ _ _,h=>rfl
 | .rp _ _,h=>rfl
end
end Go.Proofs.YtngegnonblbdhaaDoor
