/- Plain functions and facts: labels, cycles, spheres, circles, smoothing. -/
import Derived.Test.YthohfoombimbeaaGreatDoorAl
set_option linter.unusedSimpArgs false
set_option linter.unusedVariables false
namespace Go.Proofs.YthohfoombimbeaaGreatDoor
def mg(m:List Int)(c p:Int)(s:Nat)(st:List Int×List Int):List Int×List Int:=
 let to:=m.getD (4*c+s).toNat 0/4
 if st.1.getD to.toNat 0<0 then (st.1.set to.toNat p,st.2++[to]) else st
def fQ(m:List Int)(c p:Int)(st:List Int×List Int):Nat->List Int×List Int
 |0=>st
 |s+1=>mg m c p s (fQ m c p st s)
def kB(m:List Int)(p:Int):Nat->List Int->List Int->List Int
 |_,part,[]=>part
 |0,part,_::_=>part
 |n+1,part,c::q=>let st:=fQ m c p (part,q) 4;kB m p n st.1 st.2
def Dn(m:List Int)(n c:Nat)(st:List Int×Int):List Int×Int:=
 if 0<=st.1.getD c 0 then st else (kB m st.2 (2*n+1) (st.1.set c st.2) [(c:Int)],st.2+1)
def cg(m:List Int)(n:Nat):Nat->List Int×Int
 |0=>(List.replicate n (-1),0)
 |c+1=>Dn m n c (cg m n c)
def dY(m:List Int)(n:Nat):List Int×Int:=cg m n n
theorem pZ{α:Type}{l:List α}{i:Nat}{a d:α}(h:i<l.length):(l.set i a).getD i d=a:=by simp[h]
theorem oH{α:Type}{l:List α}{i j:Nat}{a d:α}(h:i≠j):(l.set i a).getD j d=l.getD j d:=by simp[h]
theorem y2u{α:Type}(a b:α)(n k:Nat)(h:k<n):(List.replicate k a++List.replicate (n-k) b).set k a=List.replicate (k+1) a++List.replicate (n-(k+1)) b:=by
 rw[List.set_append_right _ _ (by simp),List.length_replicate,Nat.sub_self];obtain⟨d,hd⟩:∃d,n-k=d+1:=⟨n-k-1,by omega⟩;rw[hd,List.replicate_succ,List.set_cons_zero,show n-(k+1)=d by omega,List.replicate_succ',List.append_assoc];rfl
def nH(l:List Int):Nat:=l.countP fun x=>decide (x<0)
theorem Mz{l:List Int}{i:Nat}{p:Int}(hi:i<l.length)(hl:l.getD i 0<0)(hp:0<=p):nH (l.set i p)+1=nH l:=by
 unfold nH
 induction l generalizing i with
 |nil=>simp at hi
 |cons x l ih=>
  cases i with
  |zero=>
   simp at hl;simp[List.countP_cons,hl,Int.not_lt.2 hp]
  |succ i=>
   simp only[List.set_cons_succ,List.countP_cons]
   have:=ih (i:=i) (by simpa using hi) (by simpa using hl)
   omega
theorem RZ(l:List Int):nH l<=l.length:=List.countP_le_length
def rI(m:List Int)(n:Nat):Prop:=m.length=4*n/\ ∀i,i<4*n->0<=m.getD i 0/\m.getD i 0<4*n
def zy(n:Nat)(q:List Int):Prop:=∀x∈q,0<=x/\x<n
def uD(n:Nat)(p:Int)(l:List Int):Prop:=l.length=n/\ ∀i,i<n-> -1<=l.getD i 0/\l.getD i 0<=p
theorem Q5{m:List Int}{n:Nat}(hm:rI m n){c p:Int}(hc:0<=c/\c<n)(hp:0<=p){s:Nat}(hs:s<4){st:List Int×List Int}(h1:uD n p st.1)(h2:zy n st.2):
  uD n p (mg m c p s st).1/\zy n (mg m c p s st).2/\2*nH (mg m c p s st).1+(mg m c p s st).2.length<=2*nH st.1+st.2.length/\(mg m c p s st).2.length<=st.2.length+1:=by
 have JW:=hm.2 (4*c+s).toNat (by omega);unfold mg;simp only;have OD:0<=m.getD (4*c+s).toNat 0/4/\m.getD (4*c+s).toNat 0/4<n:=by omega
 generalize m.getD (4*c+s).toNat 0/4=to at*
 split
 ·rename_i sq
  have aC:to.toNat<st.1.length:=by rw[h1.1];omega
  have hn:=Mz aC sq hp;refine⟨⟨by simp[h1.1],fun i hi=>?_⟩,fun x hx=>?_,?_,by simp⟩
  ·by_cases e:to.toNat=i
   ·subst e;rw[pZ aC];omega
   ·rw[oH e];exact h1.2 i hi
  ·rcases List.mem_append.1 hx with hx|hx
   ·exact h2 x hx
   ·rw[zP.1 hx];exact OD
  ·simp only[zG,List.length_singleton];omega
 ·exact⟨h1,h2,zA _,by omega⟩
theorem Ie{m:List Int}{n:Nat}(hm:rI m n){c p:Int}(hc:0<=c/\c<n)(hp:0<=p){st:List Int×List Int}(h1:uD n p st.1)(h2:zy n st.2):∀s,s<=4->
  uD n p (fQ m c p st s).1/\zy n (fQ m c p st s).2/\2*nH (fQ m c p st s).1+(fQ m c p st s).2.length<=2*nH st.1+st.2.length/\(fQ m c p st s).2.length<=st.2.length+s
 |0,_=>⟨h1,h2,zA _,by simp[fQ]⟩
 |s+1,hs=>by
  obtain⟨g1,g2,g3,g5⟩:=Ie hm hc hp h1 h2 s (by omega);obtain⟨k1,k2,k3,k5⟩:=Q5 hm hc hp (show s<4 by omega) g1 g2;exact⟨k1,k2,by simp only[fQ];omega,by simp only[fQ];omega⟩
theorem Lv{m:List Int}{n:Nat}(hm:rI m n){p:Int}(hp:0<=p):∀(f:Nat) (part q:List Int),uD n p part->zy n q->uD n p (kB m p f part q)
 |_,part,[],h,_=>by unfold kB;exact h
 |0,part,_::_,h,_=>by simpa [kB] using h
 |f+1,part,c::q,h,hq=>by
  simp only[kB];obtain⟨g1,g2,_⟩:=Ie hm (hq c (by simp)) hp (st:=(part,q)) h (fun x hx=>hq x (by simp[hx])) 4 (zA _);exact Lv hm hp f _ _ g1 g2
theorem Eg{m:List Int}{n:Nat}(hm:rI m n):∀k,k<=n->uD n (cg m n k).2 (cg m n k).1/\0<=(cg m n k).2/\(cg m n k).2<=k
 |0,_=>⟨⟨by simp[cg],fun i hi=>by simp[cg,hi]⟩,by simp[cg],by simp[cg]⟩
 |k+1,hk=>by
  obtain⟨h1,h2,h3⟩:=Eg hm k (by omega);simp only[cg,Dn]
  split
  ·exact⟨h1,h2,by omega⟩
  ·refine⟨?_,by omega,by omega⟩
   have:uD n ((cg m n k).2) (kB m (cg m n k).2 (2*n+1) ((cg m n k).1.set k (cg m n k).2) [(k:Int)]):=by
    refine Lv hm h2 _ _ _ ⟨by simp[h1.1],fun i hi=>?_⟩ (fun x hx=>by simp at hx;omega);have cX:k<(cg m n k).1.length:=by rw[h1.1];omega
    by_cases e:k=i
    ·subst e;rw[pZ cX];omega
    ·rw[oH e];exact h1.2 i hi
   exact⟨this.1,fun i hi=>by have:=this.2 i hi;simp only;omega⟩
def kH(h b:Int):Int:=h-h % 4+(h % 4+b.tmod 4+4)% 4
theorem Ur{h b:Int}{n:Nat}(h0:0<=h)(h1:h<4*n):0<=kH h b/\kH h b<4*n:=by
 have: -4<b.tmod 4/\b.tmod 4<4:=⟨Int.lt_tmod_of_pos b (by decide),Int.tmod_lt_of_pos b (by decide)⟩
 unfold kH;omega
theorem y2v{m:List Int}{c p:Int}{s:Nat}{st:List Int×List Int}{i:Nat}(h:0<=st.1.getD i 0):(mg m c p s st).1.getD i 0=st.1.getD i 0:=by
 unfold mg;simp only
 split
 ·rename_i hn
  by_cases e:(m.getD (4*c+s).toNat 0/4).toNat=i
  ·subst e;omega
  ·simp only;rw[oH e]
 ·rfl
theorem Tl{m:List Int}{c p:Int}{st:List Int×List Int}{i:Nat}(h:0<=st.1.getD i 0):∀s,(fQ m c p st s).1.getD i 0=st.1.getD i 0
 |0=>rfl
 |s+1=>by
  have:=Tl (m:=m) (c:=c) (p:=p) h s
  simp only[fQ];rw[y2v (by omega),this]
theorem Mu{m:List Int}{p:Int}{i:Nat}:∀(f:Nat) (part q:List Int),0<=part.getD i 0->(kB m p f part q).getD i 0=part.getD i 0
 |_,part,[],h=>by unfold kB;rfl
 |0,part,_::_,h=>by simp[kB]
 |f+1,part,c::q,h=>by
  simp only[kB]
  have:=Tl (m:=m) (c:=c) (p:=p) (st:=(part,q)) h 4
  rw[Mu f _ _ (by rw[this];exact h),this]
theorem Ef{m:List Int}{n:Nat}(hm:rI m n):∀k,k<=n->∀i,i<n->(cg m n k).1.getD i 0<(cg m n k).2/\(i<k->0<=(cg m n k).1.getD i 0)
 |0,_,i,hi=>by simp[cg,hi]
 |k+1,hk,i,hi=>by
  obtain⟨h1,h2⟩:=Ef hm k (by omega) i hi;obtain⟨g1,g2,g3⟩:=Eg hm k (by omega);simp only[cg,Dn]
  split
  ·rename_i h0
   refine⟨h1,fun hik=>?_⟩;rcases zY i k with g|g
   ·exact h2 g
   ·rwa [show i=k by omega]
  ·rename_i h0
   have cX:k<(cg m n k).1.length:=by rw[g1.1];omega
   have hset:uD n (cg m n k).2 ((cg m n k).1.set k (cg m n k).2):=⟨by simp[g1.1],fun i hi=>by
    by_cases e:k=i
    ·subst e;rw[pZ cX];omega
    ·rw[oH e];exact g1.2 i hi⟩
   have hb:=Lv hm g2 (2*n+1) _ [(k:Int)] hset (fun x hx=>by simp at hx;omega);have hbi:=hb.2 i hi;refine⟨by simp only;omega,fun hik=>?_⟩;have DA:0<=((cg m n k).1.set k (cg m n k).2).getD i 0:=by
    by_cases e:k=i
    ·subst e;rw[pZ cX];exact g2
    ·rw[oH e];exact h2 (by omega)
   simp only;rw[Mu _ _ _ DA];exact DA
theorem EU{m:List Int}{n:Nat}(hm:rI m n):(dY m n).1.length=n/\0<=(dY m n).2/\(dY m n).2<=n/\ ∀i,i<n->0<=(dY m n).1.getD i 0/\(dY m n).1.getD i 0<(dY m n).2:=by
 obtain⟨g1,g2,g3⟩:=Eg hm n (zA _);exact⟨g1.1,g2,g3,fun i hi=>⟨(Ef hm n (zA _) i hi).2 hi,(Ef hm n (zA _) i hi).1⟩⟩
def iJ(part:List Int)(np:Nat):Nat->List Int
 |0=>List.replicate np 0
 |k+1=>let e:=iJ part np k;let p:=(part.getD k 0).toNat;e.set p (e.getD p 0-1)
theorem IG(part:List Int)(np:Nat):∀k,(iJ part np k).length=np/\ ∀i,-(k:Int)<=(iJ part np k).getD i 0/\(iJ part np k).getD i 0<=0
 |0=>⟨by simp[iJ],fun i=>by
   by_cases h:i<np
   ·simp[iJ,h]
   ·simp[iJ,h]⟩
 |k+1=>by
  obtain⟨h1,h2⟩:=IG part np k;refine⟨by simp[iJ,h1],fun i=>?_⟩;simp only[iJ];by_cases e:(part.getD k 0).toNat=i
  ·by_cases hl:i<(iJ part np k).length
   ·subst e;rw[pZ hl];have:=h2 (part.getD k 0).toNat;omega
   ·have:=h2 i;rw[List.set_eq_of_length_le (by omega)];omega
  ·rw[oH e];have:=h2 i;omega
def mark(m:List Int):Nat->List Bool->Int->List Bool
 |0,s,_=>s
 |f+1,s,g=>if s.getD g.toNat false then s else mark m f (s.set g.toNat true) (kH (m.getD g.toNat 0) (-1))
def vm(m part:List Int)(h:Nat)(st:List Int×List Bool):List Int×List Bool:=
 if st.2.getD h false then st else
  let p:=(part.getD (h/4) 0).toNat
  (st.1.set p (st.1.getD p 0+1),mark m (m.length+1) st.2 h)
def bZ(m part:List Int)(np:Nat):Nat->List Int×List Bool
 |0=>(iJ part np part.length,List.replicate m.length false)
 |h+1=>vm m part h (bZ m part np h)
def oK(m:List Int)(n:Nat):Bool:=(bZ m (dY m n).1 (dY m n).2.toNat m.length).1.all (· ==2)
def Fb(s:List Bool):Nat:=s.countP fun x=> !x
theorem y6k{l:List Bool}{i:Nat}(hi:i<l.length)(hl:l.getD i false=false):Fb (l.set i true)+1=Fb l:=by
 unfold Fb
 induction l generalizing i with
 |nil=>simp at hi
 |cons x l ih=>
  cases i with
  |zero=>
   simp at hl;simp[hl]
  |succ i=>
   simp only[List.set_cons_succ,List.countP_cons]
   have:=ih (i:=i) (by simpa using hi) (by simpa using hl)
   omega
theorem Z3(l:List Bool):Fb l<=l.length:=List.countP_le_length
theorem Tk(m:List Int):∀(f:Nat) (s:List Bool) (g:Int),(mark m f s g).length=s.length
 |0,_,_=>rfl
 |f+1,s,g=>by
  simp only[mark]
  split
  ·rfl
  ·rw[Tk m f];simp
theorem CR(m part:List Int)(np:Nat):∀h,(bZ m part np h).1.length=np/\(bZ m part np h).2.length=m.length/\ ∀i,-(part.length:Int)<=(bZ m part np h).1.getD i 0/\(bZ m part np h).1.getD i 0<=h
 |0=>by
  obtain⟨h1,h2⟩:=IG part np part.length;exact⟨h1,by simp[bZ],fun i=>by have:=h2 i;simp only[bZ];omega⟩
 |h+1=>by
  obtain⟨h1,h2,h3⟩:=CR m part np h;simp only[bZ,vm]
  split
  ·exact⟨h1,h2,fun i=>by have:=h3 i;omega⟩
  ·refine⟨by simp[h1],by simp only;rw[Tk];exact h2,fun i=>?_⟩;simp only;by_cases e:(part.getD (h/4) 0).toNat=i
   ·by_cases hl:i<(bZ m part np h).1.length
    ·subst e;rw[pZ hl];have:=h3 (part.getD (h/4) 0).toNat;omega
    ·have:=h3 i;rw[List.set_eq_of_length_le (by omega)];omega
   ·rw[oH e];have:=h3 i;omega
def aB(s:List Int)(h:Int):Bool:=if h % 4=1 then s.getD (h/4).toNat 0==1 else if h % 4=2 then true else if h % 4=3 then s.getD (h/4).toNat 0== -1 else false
def vd(s:List Int)(k:Nat):Prop:=∀i,i<k->s.getD i 0=1\/s.getD i 0= -1
def xd(s m:List Int)(k:Nat):Prop:=∀h:Nat,h<k->0<=m.getD h 0/\m.getD h 0<4*s.length/\m.getD h 0≠h/\m.getD (m.getD h 0).toNat 0=h/\aB s h≠aB s (m.getD h 0)
instance (s:List Int) (k:Nat):Decidable (vd s k):=inferInstanceAs (Decidable (∀i,i<k->s.getD i 0=1\/s.getD i 0= -1))
instance (s m:List Int) (k:Nat):Decidable (xd s m k):=inferInstanceAs (Decidable (∀h:Nat,h<k->0<=m.getD h 0/\m.getD h 0<4*s.length/\m.getD h 0≠h/\m.getD (m.getD h 0).toNat 0=h/\aB s h≠aB s (m.getD h 0)))
def xc(s m:List Int)(L:Int):Bool:=decide (s.length<=64/\m.length=4*s.length/\0<=L/\L<=64/\vd s s.length/\xd s m (4*s.length))
def bG(s m:List Int)(L:Int):Bool:=xc s m L&&oK m s.length
theorem xk{s m:List Int}{L:Int}(h:¬(s.length<=64/\m.length=4*s.length/\0<=L/\L<=64/\vd s s.length/\xd s m (4*s.length))):false=bG s m L:=by
 unfold bG xc;rw[decide_eq_false h];rfl
theorem vbT{s m:List Int}{L:Int}(h:s.length<=64/\m.length=4*s.length/\0<=L/\L<=64/\vd s s.length/\xd s m (4*s.length)):oK m s.length=bG s m L:=by
 unfold bG xc;rw[decide_eq_true h];rfl
theorem Ng{s m:List Int}{L:Int}:bG s m L=true↔(s.length<=64/\m.length=4*s.length/\0<=L/\L<=64/\vd s s.length/\xd s m (4*s.length))/\oK m s.length=true:=by
 unfold bG xc;rw[zV,decide_eq_true_iff]
theorem UG{s:List Int}{k:Nat}(h:vd s k)(hx:s.getD k 0=1\/s.getD k 0= -1):vd s (k+1):=fun i hi=>by
 rcases zY i k with g|g
 ·exact h i g
 ·rw[show i=k by omega];exact hx
theorem Y7{s m:List Int}{k:Nat}(h:xd s m k)(hx:0<=m.getD k 0/\m.getD k 0<4*s.length/\m.getD k 0≠k/\m.getD (m.getD k 0).toNat 0=k/\aB s k≠aB s (m.getD k 0)):xd s m (k+1):=fun i hi=>by
 rcases zY i k with g|g
 ·exact h i g
 ·rw[show i=k by omega];exact hx
theorem VN{b:Bool}(h:b=false):¬b=true:=by simp[h]
theorem Yo{l:List Int}{k:Nat}(hk:k<l.length)(h:¬l.getD k 0=2):l.all (· ==2)=false:=by
 cases ha:l.all (· ==2) with
 |false=>rfl
 |true=>
  have:=zZ.1 ha _ (List.getElem_mem hk)
  simp only[beq_iff_eq]at this;simp[hk,this]at h
theorem XT{l:List Int}(h:∀i,i<l.length->l.getD i 0=2):l.all (· ==2)=true:=by
 rw[zZ];intro x hx;obtain⟨i,hi,rfl⟩:=List.mem_iff_getElem.1 hx
 have:=h i hi
 simpa [hi] using this
def it(nx:Int->Int):Nat->Int->Int
 |0,x=>x
 |j+1,x=>nx (it nx j x)
def its(nx:Int->Int)(x:Int)(k:Nat):List Int:=(List.range k).map fun j=>it nx j x
theorem Tj(nx:Int->Int)(x:Int)(k:Nat):its nx x (k+1)=its nx x k++[it nx k x]:=by simp[its,List.range_succ]
theorem LQ(nx:Int->Int)(x:Int)(k:Nat):(its nx x k).length=k:=by simp[its]
structure xE(nx:Int->Int)(x:Int)(k:Nat):Prop where
 pos:0<k
 back:it nx k x=x
 first:∀j,0<j->j<k->it nx j x≠x
def lH(seen:List Bool):List Int->List Bool
 |[]=>seen
 |g::r=>lH (seen.set g.toNat true) r
theorem MU(l:List Int):∀seen,(lH seen l).length=seen.length:=by
 induction l with
 |nil=>intro s;rfl
 |cons g r ih=>intro s;simp[lH,ih]
theorem Nq(a:List Int):∀(seen:List Bool) (b:List Int),lH seen (a++b)=lH (lH seen a) b:=by
 induction a with
 |nil=>intro s b;rfl
 |cons g r ih=>intro s b;simp[lH,ih]
theorem Ji(l:List Int):∀(seen:List Bool) (i:Nat),(∀g∈l,0<=g/\g.toNat<seen.length)->(lH seen l).getD i false=(seen.getD i false||decide ((i:Int)∈l)):=by
 induction l with
 |nil=>intro s i _;simp[lH]
 |cons g r ih=>
  intro s i h;have hg:=h g (by simp);rw[lH,ih _ _ (fun x hx=>by simpa using h x (by simp[hx]))];by_cases e:g.toNat=i
  ·subst e;rw[pZ hg.2]
   have:((g.toNat:Nat):Int)=g:=by omega
   simp[this]
  ·rw[oH e]
   have:(i:Int)≠g:=by omega
   simp[this]
def nR(want:Int->Bool)(b8:Int->List Int)(h:Nat)(st:List (List Int)×List Bool):List (List Int)×List Bool:=
 if st.2.getD h false|| !want h then st else (st.1++[b8 h],lH st.2 (b8 h))
def bt(N:Nat)(want:Int->Bool)(b8:Int->List Int):Nat->List (List Int)×List Bool
 |0=>([],List.replicate N false)
 |h+1=>nR want b8 h (bt N want b8 h)
theorem I7(N:Nat)(want:Int->Bool)(b8:Int->List Int):∀h,(bt N want b8 h).2.length=N/\(bt N want b8 h).1.length<=h
 |0=>by simp[bt]
 |h+1=>by
  obtain⟨h1,h2⟩:=I7 N want b8 h;simp only[bt,nR]
  split
  ·exact⟨h1,by omega⟩
  ·exact⟨by simp only;rw[MU];exact h1,by simp;omega⟩
theorem Lu:∀(N:Nat) (f:Nat->Nat),(∀i,i<=N->f i<N)->∃i j,i<j/\j<=N/\f i=f j
 |0,f,h=>zzA (h 0 (zA _)) (by omega)
 |N+1,f,h=>by
  by_cases hx:∃i,i<=N/\f i=f (N+1)
  ·obtain⟨i,hi,e⟩:=hx;exact⟨i,N+1,by omega,by omega,e⟩
  ·have aJ:∀i,i<=N->f i≠f (N+1):=fun i hi e=>hx ⟨i,hi,e⟩;have hg:∀i,i<=N->(if f i=N then f (N+1) else f i)<N:=by
    intro i hi;have h1:=h i (by omega);have h2:=h (N+1) (by omega);have h3:=aJ i hi
    split<;>omega
   obtain⟨i,j,lk,hj,e⟩:=Lu N (fun i=>if f i=N then f (N+1) else f i) hg;refine⟨i,j,lk,by omega,?_⟩;have h1:=aJ i (by omega);have h2:=aJ j hj
   split at e<;>split at e<;>omega
theorem Ic{p:Nat->Prop}:∀n,p n->∃k,k<=n/\p k/\ ∀m,m<k->¬p m:=by
 intro n
 induction n using Nat.strongRecOn with
 |_ n ih=>
  intro hn;by_cases hx:∃m,m<n/\p m
  ·obtain⟨m,hm,hp⟩:=hx;obtain⟨k,h1,h2,h3⟩:=ih m hm hp;exact⟨k,by omega,h2,h3⟩
  ·exact⟨n,zA _,hn,fun m hm hp=>hx ⟨m,hm,hp⟩⟩
theorem Ib(nx:Int->Int)(i j:Nat)(x:Int):it nx (i+j) x=it nx i (it nx j x):=by
 induction i with
 |zero=>simp[it]
 |succ i ih=>rw[Nat.add_right_comm];simp[it,ih]
structure Perm(nx:Int->Int)(N:Nat)(S:Int->Prop):Prop where
 fP:∀x,S x->0<=x/\x<N
 closed:∀x,S x->S (nx x)
 inj:∀x y,S x->S y->nx x=nx y->x=y
section
variable{nx:Int->Int}{N:Nat}{S:Int->Prop}
theorem Perm.it(h:Perm nx N S){x:Int}(hx:S x):∀j,S (it nx j x)
 |0=>hx
 |j+1=>h.closed _ (h.it hx j)
theorem Perm.cancel(h:Perm nx N S){x:Int}(hx:S x):∀i d,Proofs.YthohfoombimbeaaGreatDoor.it nx (i+d) x=Proofs.YthohfoombimbeaaGreatDoor.it nx i x->Proofs.YthohfoombimbeaaGreatDoor.it nx d x=x
 |0,d,e=>by simpa [Proofs.YthohfoombimbeaaGreatDoor.it] using e
 |i+1,d,e=>by
  rw[Nat.add_right_comm]at e;exact h.cancel hx i d (h.inj _ _ (h.it hx _) (h.it hx _) e)
theorem Perm.fD(h:Perm nx N S){x:Int}(hx:S x):∃k,k<=N/\xE nx x k:=by
 obtain⟨i,j,lk,hj,e⟩:=Lu N (fun j=>(Proofs.YthohfoombimbeaaGreatDoor.it nx j x).toNat) (fun i _=>by have:=h.fP _ (h.it hx i);omega);have r1:=h.fP _ (h.it hx i);have r2:=h.fP _ (h.it hx j);have e':Proofs.YthohfoombimbeaaGreatDoor.it nx (i+(j-i)) x=Proofs.YthohfoombimbeaaGreatDoor.it nx i x:=by rw[show i+(j-i)=j by omega];omega
 have hd:=h.cancel hx i (j-i) e';obtain⟨k,h1,⟨h2,h3⟩,h4⟩:=Ic (p:=fun d=>0<d/\Proofs.YthohfoombimbeaaGreatDoor.it nx d x=x) (j-i) ⟨by omega,hd⟩;exact⟨k,by omega,h2,h3,fun m hm aC e=>h4 m aC ⟨hm,e⟩⟩
theorem Q4{x:Int}{k:Nat}(h:xE nx x k):∀j,it nx j x=it nx (j % k) x:=by
 intro j
 induction j using Nat.strongRecOn with
 |_ j ih=>
  rcases zY j k with g|g
  ·rw[Nat.mod_eq_of_lt g]
  ·have h0:=h.pos
   have:it nx j x=it nx (j-k) x:=by
    conv=>lhs;rw[show j=(j-k)+k by omega]
    rw[Ib,h.back]
   rw[this,ih (j-k) (by omega),<-Nat.mod_eq_sub_mod g]
theorem IF{x y:Int}{k:Nat}:y∈its nx x k↔ ∃j,j<k/\it nx j x=y:=by simp[its]
theorem Uq{x y:Int}{k:Nat}(h:xE nx x k):y∈its nx x k↔ ∃j,it nx j x=y:=by
 rw[IF];constructor
 ·rintro⟨j,_,e⟩;exact⟨j,e⟩
 ·rintro⟨j,e⟩;exact⟨j % k,Nat.mod_lt _ h.pos,by rw[<-Q4 h,e]⟩
theorem Yn{x y:Int}{k:Nat}(h:xE nx x k)(hy:∃j,it nx j x=y):∃j,it nx j y=x:=by
 obtain⟨j,e⟩:=hy;have h0:=h.pos;refine⟨k-j % k,?_⟩;have aC:=Nat.mod_lt j h0;rw[<-e,Q4 h j,<-Ib,show k-j % k+j % k=k by omega,h.back]
theorem YI{x y z:Int}(h1:∃j,it nx j x=y)(h2:∃j,it nx j y=z):∃j,it nx j x=z:=by
 obtain⟨i,rfl⟩:=h1;obtain⟨j,rfl⟩:=h2;exact⟨j+i,Ib nx j i x⟩
theorem XS(h:Perm nx N S){x:Int}{k:Nat}(hx:S x)(hp:xE nx x k):(its nx x k).Nodup:=by
 unfold its;rw[List.nodup_iff_pairwise_ne,List.pairwise_map];refine List.Pairwise.imp_of_mem ?_ (List.pairwise_lt_range);intro a b ha hb aC e;have hb:=zK.1 hb
 have:=h.cancel hx a (b-a) (by rw[show a+(b-a)=b by omega];exact e.symm)
 exact hp.first (b-a) (by omega) (by omega) this
end
def Lt(x:Int)(l:List Int):Bool:=l.all fun y=>decide (x<=y)
theorem Nf{x:Int}{l:List Int}:Lt x l=true↔ ∀y∈l,x<=y:=by simp[Lt]
def nb(m:List Int)(a s:Nat):Nat:=(m.getD (4*a+s) 0/4).toNat
inductive bN(m:List Int):Nat->Nat->Prop
 |refl (a:Nat):bN m a a
 |step {a b:Nat} (s:Nat) (hs:s<4) (h:bN m a b):bN m a (nb m b s)
structure gQ(m:List Int)(n:Nat):Prop where
 ok:rI m n
 inv:∀h:Nat,h<4*n->m.getD (m.getD h 0).toNat 0=h
section
variable{m:List Int}{n:Nat}
theorem bN.trans{a b c:Nat}(h1:bN m a b)(h2:bN m b c):bN m a c:=by
 induction h2 with
 |refl=>exact h1
 |step s hs _ ih=>exact .step s hs ih
theorem gQ.kv(hp:gQ m n){a s:Nat}(ha:a<n)(hs:s<4):nb m a s<n:=by
 have:=hp.ok.2 (4*a+s) (by omega);unfold nb;omega
theorem gQ.back(hp:gQ m n){a s:Nat}(ha:a<n)(hs:s<4):∃t,t<4/\nb m (nb m a s) t=a:=by
 have h1:=hp.ok.2 (4*a+s) (by omega);have h2:=hp.inv (4*a+s) (by omega);refine⟨(m.getD (4*a+s) 0 % 4).toNat,by omega,?_⟩;unfold nb;rw[show 4*(m.getD (4*a+s) 0/4).toNat+(m.getD (4*a+s) 0 % 4).toNat=(m.getD (4*a+s) 0).toNat by omega,h2];omega
theorem bN.lt(hp:gQ m n){a b:Nat}(h:bN m a b)(ha:a<n):b<n:=by
 induction h with
 |refl=>exact ha
 |step s hs _ ih=>exact hp.kv ih hs
theorem bN.symm(hp:gQ m n){a b:Nat}(h:bN m a b)(ha:a<n):bN m b a:=by
 induction h with
 |refl=>exact .refl _
 | @step b s hs h ih=>
   obtain⟨t,ht,e⟩:=hp.back (h.lt hp ha) hs;have h1:=bN.step t ht (bN.refl (m:=m) (nb m b s));rw[e]at h1;exact h1.trans ih
theorem bN.closed(hp:gQ m n){S:Nat->Prop}(hc:∀a s,a<n->s<4->S a->S (nb m a s)){a b:Nat}(h:bN m a b)(ha:a<n)(hS:S a):S b:=by
 induction h with
 |refl=>exact hS
 |step s hs h ih=>exact hc _ s (h.lt hp ha) hs ih
structure BJ(m:List Int)(n:Nat)(p:Int)(c:Nat)(part q:List Int)(at':Nat)(s:Nat):Prop where
 pok:uD n p part
 qok:zy n q
 yb:∀a,a<n->0<=part.getD a 0->part.getD a 0≠p->∀s,s<4->part.getD (nb m a s) 0=part.getD a 0
 cur:∀a,a<n->part.getD a 0=p->(a:Int)∉q->a≠at'->∀s,s<4->part.getD (nb m a s) 0=p
 con:∀a,a<n->part.getD a 0=p->bN m c a
 que:∀x∈q,part.getD x.toNat 0=p
 hd:at'<n->part.getD at' 0=p/\ ∀s',s'<s->part.getD (nb m at' s') 0=p
theorem BJ.one(hp:gQ m n){p:Int}(h0:0<=p){c a s:Nat}{st:List Int×List Int}(h:BJ m n p c st.1 st.2 a s)(ha:a<n)(hs:s<4):BJ m n p c (mg m a p s st).1 (mg m a p s st).2 a (s+1):=by
 have aC:=hp.kv ha hs;have dt:=Q5 hp.ok (c:=(a:Int)) (p:=p) ⟨by omega,by omega⟩ h0 hs h.pok h.qok;obtain⟨dW,im⟩:=h.hd ha;have e0:m.getD (4*(a:Int)+s).toNat 0/4=(nb m a s:Int):=by
  have:=hp.ok.2 (4*a+s) (by omega)
  unfold nb;rw[show (4*(a:Int)+s).toNat=4*a+s by omega];omega
 have mI:=h.pok.1;by_cases hn:st.1.getD (nb m a s) 0<0
 ·have e:mg m a p s st=(st.1.set (nb m a s) p,st.2++[(nb m a s:Int)]):=by
   unfold mg;simp only;rw[e0];simp only[zD];rw[zM hn]
  rw[e]at dt⊢;have hg:∀b,(st.1.set (nb m a s) p).getD b 0=if b=nb m a s then p else st.1.getD b 0:=by
   intro b;by_cases eb:nb m a s=b
   ·subst eb;rw[zM rfl,pZ (by omega)]
   ·rw[oH eb,zL (Ne.symm eb)]
  refine⟨dt.1,dt.2.1,?_,?_,?_,?_,?_⟩
  ·intro b hb h1 h2 t ht;simp only[hg]at h1 h2⊢;by_cases eb:b=nb m a s
   ·rw[zM eb]at h2;omega
   ·rw[zL eb]at h1 h2⊢;have h3:=h.yb b hb h1 h2 t ht;rw[zL ?_,h3];intro e';rw[e']at h3;omega
  ·intro b hb h1 h2 h3 t ht;simp only[hg]at h1⊢;have eb:b≠nb m a s:=fun e'=>h2 (by simp[e']);rw[zL eb]at h1
   have:=h.cur b hb h1 (fun hm=>h2 (by simp[hm])) h3 t ht
   split
   ·rfl
   ·exact this
  ·intro b hb h1;simp only[hg]at h1;by_cases eb:b=nb m a s
   ·subst eb;exact .step s hs (h.con a ha dW)
   ·rw[zL eb]at h1;exact h.con b hb h1
  ·intro x hx;rcases List.mem_append.1 hx with hx|hx
   ·have:=h.que x hx
    simp only[hg];split
    ·rfl
    ·exact this
   ·rw[zP.1 hx];simp only[hg,zD,zM]
  ·intro _;simp only[hg];refine⟨?_,fun s' a7=>?_⟩
   ·split
    ·rfl
    ·exact dW
   ·rcases zY s' s with g|g
    ·split
     ·rfl
     ·exact im s' g
    ·rw[show s'=s by omega,zM rfl]
 ·have e:mg m a p s st=st:=by
   unfold mg;simp only;rw[e0];simp only[zD];rw[zL hn]
  rw[e];refine⟨h.pok,h.qok,h.yb,h.cur,h.con,h.que,fun _=>⟨dW,fun s' a7=>?_⟩⟩;rcases zY s' s with g|g
  ·exact im s' g
  ·obtain rfl:s'=s:=by omega
   by_cases ep:st.1.getD (nb m a s') 0=p
   ·exact ep
   ·obtain⟨t,ht,eb⟩:=hp.back ha hs
    have:=h.yb (nb m a s') aC (by omega) ep t ht
    rw[eb]at this;omega
theorem BJ.four(hp:gQ m n){p:Int}(h0:0<=p){c a:Nat}{st:List Int×List Int}(h:BJ m n p c st.1 st.2 a 0)(ha:a<n):∀s,s<=4->BJ m n p c (fQ m a p st s).1 (fQ m a p st s).2 a s
 |0,_=>h
 |s+1,hs=>(BJ.four hp h0 h ha s (by omega)).one hp h0 ha (by omega)
theorem Q3(hp:gQ m n){p:Int}(h0:0<=p){c:Nat}:∀(f:Nat) (part q:List Int),BJ m n p c part q n 0->2*nH part+q.length<=f->BJ m n p c (kB m p f part q) [] n 0
 |f,part,[],h,_=>by unfold kB;exact h
 |0,part,_::_,_,hf=>by simp at hf
 |f+1,part,x::q,h,hf=>by
  obtain⟨jb,vK⟩:=h.qok x (by simp);have ry:=h.que x (by simp);obtain⟨a,rfl⟩:∃a:Nat,x=a:=⟨x.toNat,by omega⟩;have ha:a<n:=by omega
  simp only[zD]at ry;have h1:BJ m n p c (part,q).1 (part,q).2 a 0:=⟨h.pok,fun y hy=>h.qok y (by simp[hy]),h.yb,fun b hb PB PA aJ s hs=>h.cur b hb PB (by simp only[zzD,not_or];exact⟨by omega,PA⟩) (by omega) s hs,h.con,fun y hy=>h.que y (by simp[hy]),fun _=>⟨ry,fun s' a7=>by omega⟩⟩;have h2:=BJ.four hp h0 h1 ha 4 (zA _)
  obtain⟨_,_,h3,_⟩:=Ie hp.ok (c:=(a:Int)) (p:=p) ⟨by omega,by omega⟩ h0 (st:=(part,q)) h1.pok h1.qok 4 (zA _);simp only[kB];simp only[zH]at hf;simp only at h3;refine Q3 hp h0 f _ _ ⟨h2.pok,h2.qok,h2.yb,fun b hb PB PA _ s hs=>?_,h2.con,h2.que,fun hh=>by omega⟩ (by omega);by_cases e:b=a
  ·subst e;exact(h2.hd ha).2 s hs
  ·exact h2.cur b hb PB PA e s hs
theorem Z2(m:List Int)(c p:Int)(s:Nat)(st:List Int×List Int)(i:Nat):(mg m c p s st).1.getD i 0=st.1.getD i 0\/(mg m c p s st).1.getD i 0=p:=by
 unfold mg;simp only
 split
 ·by_cases e:(m.getD (4*c+s).toNat 0/4).toNat=i
  ·subst e;by_cases hl:(m.getD (4*c+s).toNat 0/4).toNat<st.1.length
   ·right;simp only;rw[pZ hl]
   ·left;simp only;rw[List.set_eq_of_length_le (by omega)]
  ·left;simp only;rw[oH e]
 ·exact .inl rfl
theorem Q0(m:List Int)(c p:Int)(st:List Int×List Int)(i:Nat):∀s,(fQ m c p st s).1.getD i 0=st.1.getD i 0\/(fQ m c p st s).1.getD i 0=p
 |0=> .inl rfl
 |s+1=>by
  rcases Z2 m c p s (fQ m c p st s) i with h|h
  ·rcases Q0 m c p st i s with g|g
   ·exact .inl (by simp only[fQ];rw[h,g])
   ·exact .inr (by simp only[fQ];rw[h,g])
  ·exact .inr h
theorem QZ(m:List Int)(p:Int)(i:Nat):∀(f:Nat) (part q:List Int),(kB m p f part q).getD i 0=part.getD i 0\/(kB m p f part q).getD i 0=p
 |_,part,[]=>by unfold kB;exact .inl rfl
 |0,part,_::_=>by simp[kB]
 |f+1,part,c::q=>by
  simp only[kB];rcases QZ m p i f (fQ m c p (part,q) 4).1 (fQ m c p (part,q) 4).2 with h|h
  ·rcases Q0 m c p (part,q) i 4 with g|g
   ·exact .inl (h.trans g)
   ·exact .inr (h.trans g)
  ·exact .inr h
structure LI(m:List Int)(n:Nat)(st:List Int×Int):Prop where
 DZ:∀a,a<n->0<=st.1.getD a 0->∀s,s<4->st.1.getD (nb m a s) 0=st.1.getD a 0
 con:∀a b,a<n->b<n->0<=st.1.getD a 0->st.1.getD a 0=st.1.getD b 0->bN m a b
 att:∀p:Nat,(p:Int)<st.2->∃a,a<n/\st.1.getD a 0=p
theorem Ls(hp:gQ m n):∀k,k<=n->LI m n (cg m n k)
 |0,_=>⟨fun a ha h=>by simp[cg,ha]at h,fun a b ha _ h=>by simp[cg,ha]at h,fun p h=>by simp[cg]at h;omega⟩
 |k+1,hk=>by
  have ih:=Ls hp k (by omega);obtain⟨g1,g2,g3⟩:=Eg hp.ok k (by omega);have Xm:=fun i hi=>(Ef hp.ok k (by omega) i hi).1;simp only[cg,Dn]
  split
  ·exact ih
  ·rename_i sq
   have sq:(cg m n k).1.getD k 0<0:=by omega
   generalize cg m n k=st at*;obtain⟨part,p⟩:=st;simp only at*;have gq:=g1.1;have hset:∀b,(part.set k p).getD b 0=if b=k then p else part.getD b 0:=by
    intro b;by_cases eb:k=b
    ·subst eb;rw[zM rfl,pZ (by omega)]
    ·rw[oH eb,zL (Ne.symm eb)]
   have wF:BJ m n p k (part.set k p) [(k:Int)] n 0:=by
    refine⟨⟨by simp[gq],fun i hi=>by rw[hset];have:=g1.2 i hi;split<;>omega⟩,fun x hx=>by simp at hx;omega,?_,?_,?_,fun x hx=>by simp at hx;subst hx;simp only[zD];rw[hset,zM rfl],fun hh=>by omega⟩
    ·intro a ha h1 h2 s hs;simp only[hset]at h1 h2⊢;by_cases e:a=k
     ·rw[zM e]at h2;omega
     ·rw[zL e]at h1 h2⊢
      have:part.getD (nb m a s) 0=part.getD a 0:=ih.DZ a ha h1 s hs
      rw[zL ?_,this];intro e';rw[e']at this;omega
    ·intro a ha h1 h2 _ s hs;simp only[hset]at h1;by_cases e:a=k
     ·subst e;simp at h2
     ·rw[zL e]at h1;have:=Xm a ha;omega
    ·intro a ha h1;simp only[hset]at h1;by_cases e:a=k
     ·subst e;exact .refl _
     ·rw[zL e]at h1;have:=Xm a ha;omega
   have Gj:=Mz (i:=k) (p:=p) (by omega) sq g2;have BN:=RZ part;have hb:=Q3 hp g2 (2*n+1) _ _ wF (by simp only[List.length_singleton];omega);have Ax:=fun i=>Mu (m:=m) (p:=p) (i:=i) (2*n+1) (part.set k p) [(k:Int)];have gC:(kB m p (2*n+1) (part.set k p) [(k:Int)]).getD k 0=p:=by
    rw[Ax k (by rw[hset,zM rfl];exact g2),hset,zM rfl]
   have uJ:=fun i=>QZ m p i (2*n+1) (part.set k p) [(k:Int)];generalize kB m p (2*n+1) (part.set k p) [(k:Int)]=res at*;have hold:∀a,a<n->0<=part.getD a 0->res.getD a 0=part.getD a 0:=by
    intro a ha h1;have e:a≠k:=fun e=>by subst e;omega
    have h2:=Ax a;rw[hset,zL e]at h2;exact h2 h1
   have hnew:∀a,a<n->0<=res.getD a 0->res.getD a 0≠p->0<=part.getD a 0:=by
    intro a ha h1 h2;have h3:=uJ a;rw[hset]at h3;rcases h3 with h3|h3
    ·split at h3
     ·omega
     ·omega
    ·omega
   have c1:∀a,a<n->0<=res.getD a 0->∀s,s<4->res.getD (nb m a s) 0=res.getD a 0:=fun a ha h1 s hs=>by
    by_cases e:res.getD a 0=p
    ·rw[e];exact hb.cur a ha e (by simp) (by omega) s hs
    ·exact hb.yb a ha h1 e s hs
   have c2:∀a b,a<n->b<n->0<=res.getD a 0->res.getD a 0=res.getD b 0->bN m a b:=fun a b ha Kh h1 h2=>by
    by_cases e:res.getD a 0=p
    ·exact(bN.symm hp (hb.con a ha e) (by omega)).trans (hb.con b Kh (by omega))
    ·have cG:=hnew a ha h1 e;have s9:=hnew b Kh (by omega) (by omega);exact ih.con a b ha Kh cG (by show part.getD a 0=part.getD b 0;rw[<-hold a ha cG,<-hold b Kh s9];exact h2)
   have c3:∀q:Nat,(q:Int)<p+1->∃a,a<n/\res.getD a 0=q:=fun q hq=>by
    rcases Int.lt_or_le q p with g|g
    ·obtain⟨a,ha,e⟩:=ih.att q g;have e:part.getD a 0=q:=e;exact⟨a,ha,by rw[hold a ha (by omega),e]⟩
    ·exact⟨k,by omega,by rw[gC];omega⟩
   exact⟨c1,c2,c3⟩
theorem Nd(hp:gQ m n){a b:Nat}(ha:a<n)(hb:b<n):(dY m n).1.getD a 0=(dY m n).1.getD b 0↔bN m a b:=by
 have h:=Ls hp n (zA _);have h0:=fun i hi=>(Ef hp.ok n (zA _) i hi).2 hi;constructor
 ·exact fun e=>h.con a b ha hb (h0 a ha) e
 ·intro hc;refine(bN.closed hp (S:=fun x=>x<n/\(dY m n).1.getD x 0=(dY m n).1.getD a 0) ?_ hc ha ⟨ha,rfl⟩).2.symm;intro x s hx hs ⟨_,e⟩;exact⟨hp.kv hx hs,by rw[<-e];exact h.DZ x hx (h0 x hx) s hs⟩
theorem T8(hp:gQ m n){p:Nat}(h:(p:Int)<(dY m n).2):∃a,a<n/\(dY m n).1.getD a 0=p:=(Ls hp n (zA _)).att p h
def vr(m:List Int)(h:Nat)(l:List Int):List Int:=(l.set (h/4) (min (l.getD (h/4) 0) (l.getD (m.getD h 0/4).toNat 0))).set (m.getD h 0/4).toNat (min (l.getD (h/4) 0) (l.getD (m.getD h 0/4).toNat 0))
def Dg(m l:List Int):Nat->List Int
 |0=>l
 |h+1=>vr m h (Dg m l h)
def dZ(m:List Int)(n:Nat):Nat->List Int
 |0=>(List.range n).map fun (i:Nat)=>(i:Int)
 |k+1=>Dg m (dZ m n k) (4*n)
def RI(m:List Int)(n:Nat)(l:List Int):Prop:=l.length=n/\ ∀c,c<n->0<=l.getD c 0/\l.getD c 0<=c/\bN m c (l.getD c 0).toNat
theorem RY(hp:gQ m n){l:List Int}(hl:l.length=n){h:Nat}(hh:h<4*n)(c:Nat):(vr m h l).getD c 0=if c=h/4\/c=nb m (h/4) (h % 4) then min (l.getD (h/4) 0) (l.getD (nb m (h/4) (h % 4)) 0) else l.getD c 0:=by
 have e:(m.getD h 0/4).toNat=nb m (h/4) (h % 4):=by unfold nb;rw[show 4*(h/4)+h % 4=h by omega]
 have aC:=hp.kv (a:=h/4) (s:=h % 4) (by omega) (by omega);unfold vr;rw[e];by_cases e1:nb m (h/4) (h % 4)=c
 ·subst e1;rw[pZ (by simp;omega),zM (.inr rfl)]
 ·rw[oH e1];by_cases e2:h/4=c
  ·subst e2;rw[pZ (by omega),zM (.inl rfl)]
  ·rw[oH e2,zL (by omega)]
theorem y6l(l:List Int)(h:Nat):(vr m h l).length=l.length:=by simp[vr]
theorem QY(hp:gQ m n){l:List Int}(hl:RI m n l){h:Nat}(hh:h<4*n):RI m n (vr m h l)/\ ∀c,c<n->(vr m h l).getD c 0<=l.getD c 0:=by
 have aC:=hp.kv (a:=h/4) (s:=h % 4) (by omega) (by omega);have h1:=hl.2 (h/4) (by omega);have h2:=hl.2 _ aC;have hc:bN m (h/4) (nb m (h/4) (h % 4)):= .step _ (by omega) (.refl _);have lI:=hc.symm hp (by omega);have key:∀c,c<n->(0<=(vr m h l).getD c 0/\(vr m h l).getD c 0<=c/\bN m c ((vr m h l).getD c 0).toNat)/\(vr m h l).getD c 0<=l.getD c 0:=by
  intro c GL;rw[RY hp hl.1 hh];by_cases e:c=h/4\/c=nb m (h/4) (h % 4)
  ·rw[zM e];rw[Int.min_def]
   split
   ·rcases e with e|e
    ·subst e;exact⟨⟨h1.1,h1.2.1,h1.2.2⟩,Int.le_refl _⟩
    ·subst e;exact⟨⟨h1.1,by omega,lI.trans h1.2.2⟩,by omega⟩
   ·rcases e with e|e
    ·subst e;exact⟨⟨h2.1,by omega,hc.trans h2.2.2⟩,by omega⟩
    ·subst e;exact⟨⟨h2.1,h2.2.1,h2.2.2⟩,Int.le_refl _⟩
  ·rw[zL e];exact⟨hl.2 c GL,Int.le_refl _⟩
 exact⟨⟨by rw[y6l];exact hl.1,fun c hc=>(key c hc).1⟩,fun c hc=>(key c hc).2⟩
theorem Ia(hp:gQ m n){l:List Int}(hl:RI m n l):∀h,h<=4*n->RI m n (Dg m l h)/\ ∀c,c<n->(Dg m l h).getD c 0<=l.getD c 0
 |0,_=>⟨hl,fun c _=>Int.le_refl _⟩
 |h+1,hh=>by
  obtain⟨h1,h2⟩:=Ia hp hl h (by omega);obtain⟨h3,h4⟩:=QY hp h1 (h:=h) (by omega);exact⟨h3,fun c hc=>Int.le_trans (h4 c hc) (h2 c hc)⟩
theorem QO(hp:gQ m n){l:List Int}(hl:RI m n l):∀h,h<=4*n->∀c s,4*c+s<h->s<4->(Dg m l h).getD (nb m c s) 0<=l.getD c 0
 |0,_,c,s,wz,_=>by omega
 |h+1,hh,c,s,wz,hs=>by
  obtain⟨h1,h2⟩:=Ia hp hl h (by omega);obtain⟨h3,h4⟩:=QY hp h1 (h:=h) (by omega);rcases zY (4*c+s) h with q|q
  ·exact Int.le_trans (h4 _ (hp.kv (by omega) hs)) (QO hp hl h (by omega) c s q hs)
  ·have e1:h/4=c:=by omega
   have e2:h % 4=s:=by omega
   simp only[Dg];rw[RY hp h1.1 (by omega),e1,e2,zM (.inr rfl)]
   have:=h2 c (by omega)
   omega
theorem A2(hp:gQ m n):∀k,RI m n (dZ m n k)
 |0=>⟨by simp[dZ],fun c hc=>by simp[dZ,hc];exact .refl _⟩
 |k+1=>(Ia hp (A2 hp k) (4*n) (zA _)).1
theorem Y0{p q:Nat->Bool}(l:List Nat)(h:∀x∈l,p x=true->q x=true):l.countP p<=l.countP q:=by
 induction l with
 |nil=>simp
 |cons x l ih=>
  have:=ih (fun y hy=>h y (by simp[hy]))
  have hx:=h x (by simp);simp only[List.countP_cons];cases vV:p x<;>cases hqx:q x<;>simp_all<;>omega
theorem YZ{p q:Nat->Bool}(l:List Nat)(h:∀x∈l,p x=true->q x=true){y:Nat}(hy:y∈l)(h1:p y=false)(h2:q y=true):l.countP p<l.countP q:=by
 induction l with
 |nil=>simp at hy
 |cons x l ih=>
  have h3:=Y0 l (fun y hy=>h y (by simp[hy]));have hx:=h x (by simp);simp only[List.countP_cons];rcases zzD.1 hy with e|e
  ·subst e;simp[h1,h2];omega
  ·have:=ih (fun y hy=>h y (by simp[hy])) e
   cases vV:p x<;>cases hqx:q x<;>simp_all<;>omega
theorem XH(hp:gQ m n){u:Nat}(hu:u<n)(BP:∀b,bN m u b->u<=b){b:Nat}(hb:bN m u b):(dZ m n n).getD b 0=u:=by
 have Gx:∀k c,bN m u c->(u:Int)<=(dZ m n k).getD c 0:=fun k c hc=>by
  have hr:=(A2 hp k).2 c (hc.lt hp hu)
  have:=BP _ (hc.trans hr.2.2);omega
 have Ap:∀k,(dZ m n k).getD u 0=u:=fun k=>by
  have hr:=(A2 hp k).2 u hu
  have:=Gx k u (.refl _);omega
 have jJ:∀k c,c<n->(dZ m n (k+1)).getD c 0<=(dZ m n k).getD c 0:=fun k c hc=>(Ia hp (A2 hp k) (4*n) (zA _)).2 c hc;have s5:∀k c s,c<n->s<4->(dZ m n (k+1)).getD (nb m c s) 0<=(dZ m n k).getD c 0:=fun k c s hc hs=>QO hp (A2 hp k) (4*n) (zA _) c s (by omega) hs;have kz:∀k c,c<n->(dZ m n k).getD c 0=u->bN m u c:=fun k c hc e=>by
  have hr:=(A2 hp k).2 c hc;have h1:=hr.2.2;rw[e]at h1;exact(by simpa using h1:bN m c u).symm hp hc
 have key:∀k,(∀c,bN m u c->(dZ m n k).getD c 0=u)\/k+1<=(List.range n).countP (fun c=>decide ((dZ m n k).getD c 0=u)):=by
  intro k
  induction k with
  |zero=>
   right;exact List.countP_pos_iff.2 ⟨u,zK.2 hu,by simp only[Ap 0,decide_true]⟩
  |succ k ih=>
   rcases ih with ih|ih
   ·left;intro c hc;have h1:=jJ k c (hc.lt hp hu);have h2:=Gx (k+1) c hc;rw[ih c hc]at h1;omega
   ·by_cases cW:∀c s,c<n->s<4->(dZ m n k).getD c 0=u->(dZ m n k).getD (nb m c s) 0=u
    ·left;intro c hc;have h0:=(bN.closed hp (S:=fun c=>c<n/\(dZ m n k).getD c 0=u) (fun a s ha hs h=>⟨hp.kv ha hs,cW a s ha hs h.2⟩) hc hu ⟨hu,Ap k⟩).2;have h1:=jJ k c (hc.lt hp hu);have h2:=Gx (k+1) c hc;rw[h0]at h1;omega
    ·right;have hex:∃c s,c<n/\s<4/\(dZ m n k).getD c 0=u/\(dZ m n k).getD (nb m c s) 0≠u:=by
      apply zW;intro aJ;exact cW fun c s hc hs e=>zW fun e'=>aJ ⟨c,s,hc,hs,e,e'⟩
     obtain⟨c,s,hc,hs,e1,e2⟩:=hex;have GK:=kz k c hc e1;have aC:=hp.kv hc hs;have h3:(dZ m n (k+1)).getD (nb m c s) 0=u:=by
      have h1:=s5 k c s hc hs;have h2:=Gx (k+1) (nb m c s) (.step s hs GK);omega
     have:=YZ (p:=fun c=>decide ((dZ m n k).getD c 0=u)) (q:=fun c=>decide ((dZ m n (k+1)).getD c 0=u)) (List.range n) (fun x hx vV=>by
      have hx:=zK.1 hx;have e:=of_decide_eq_true vV;have h1:=jJ k x hx;have h2:=Gx (k+1) x (kz k x hx e);exact decide_eq_true (by omega)) (zK.2 aC) (decide_eq_false e2) (decide_eq_true h3)
     omega
 rcases key n with h|h
 ·exact h b hb
 ·have:=List.countP_le_length (p:=fun c=>decide ((dZ m n n).getD c 0=u)) (l:=List.range n)
  rw[List.length_range]at this;omega
theorem LP(hp:gQ m n){a:Nat}(ha:a<n):∃u,u<n/\bN m u a/\(∀b,b<n->((dZ m n n).getD b 0=u↔bN m a b)):=by
 obtain⟨u,h1,h2,h3⟩:=Ic (p:=fun b=>bN m a b) a (.refl _);have hu:u<n:=by omega
 have BP:∀b,bN m u b->u<=b:=fun b hb=>Nat.le_of_not_lt fun aC=>h3 b aC (h2.trans hb);have JV:=h2.symm hp ha;refine⟨u,hu,JV,fun b hb=>⟨fun e=>?_,fun gL=>XH hp hu BP (JV.trans gL)⟩⟩;have hr:=(A2 hp n).2 b hb;have h4:=hr.2.2;rw[e]at h4;exact h2.trans ((by simpa using h4:bN m b u).symm hp hb)
end
def vy(nx:Int->Int)(x:Int):Nat->Int->List Int
 |0,_=>[]
 |f+1,g=>if g=x then [] else g::vy nx x f (nx g)
def c9(nx:Int->Int)(N:Nat)(x:Int):List Int:=x::vy nx x N (nx x)
theorem RX{nx:Int->Int}{x:Int}{k:Nat}(h:xE nx x k):∀f j,0<j->j<=k->k<=f+j->vy nx x f (it nx j x)=(List.range (k-j)).map fun i=>it nx (j+i) x
 |0,j,h0,h1,h2=>by obtain rfl:j=k:=by omega
                   simp[vy]
 |f+1,j,h0,h1,h2=>by
  unfold vy;by_cases e:j=k
  ·subst e;rw[zM h.back];simp
  ·rw[zL (h.first j h0 (by omega)),show k-j=(k-(j+1))+1 by omega,List.range_succ_eq_map];rw[show nx (it nx j x)=it nx (j+1) x from rfl,RX h f (j+1) (by omega) (by omega) (by omega)];simp only[List.map_cons,Nat.add_zero,List.map_map,List.cons.injEq,true_and];refine List.map_congr_left fun i _=>?_;simp only[Function.comp];rw[show j+i.succ=j+1+i by omega]
theorem RW{nx:Int->Int}{x:Int}{k N:Nat}(h:xE nx x k)(hk:k<=N+1):c9 nx N x=its nx x k:=by
 have h0:=h.pos;unfold c9 its;rw[show nx x=it nx 1 x from rfl,RX h N 1 (by omega) (by omega) (by omega)]
 conv=>rhs;rw[show k=(k-1)+1 by omega,List.range_succ_eq_map]
 simp only[List.map_cons,List.map_map];refine congrArg (List.cons x) (List.map_congr_left fun i _=>?_);simp only[Function.comp];rw[show i.succ=1+i by omega]
def iB(m:List Int)(g:Int):Int:=kH (m.getD g.toNat 0) (-1)
def cE(n:Nat)(x:Int):Prop:=0<=x/\x<4*n
theorem XG{n:Nat}{x y b:Int}(hx:cE n x)(hy:cE n y)(e:kH x b=kH y b):x=y:=by
 have: -4<b.tmod 4/\b.tmod 4<4:=⟨Int.lt_tmod_of_pos b (by decide),Int.tmod_lt_of_pos b (by decide)⟩
 unfold kH cE at*;omega
section
variable{m:List Int}{n:Nat}
theorem gQ.inj(hp:gQ m n){x y:Int}(hx:cE n x)(hy:cE n y)(e:m.getD x.toNat 0=m.getD y.toNat 0):x=y:=by
 unfold cE at*;have h1:=hp.inv x.toNat (by omega);have h2:=hp.inv y.toNat (by omega);rw[e,h2]at h1;omega
theorem gQ.fP(hp:gQ m n){x:Int}(hx:cE n x):cE n (m.getD x.toNat 0):=by
 unfold cE at*;have:=hp.ok.2 x.toNat (by omega);omega
theorem XF(hp:gQ m n)(b:Int):Perm (fun g=>kH (m.getD g.toNat 0) b) (4*n) (cE n):=
 ⟨fun x hx=>by unfold cE at hx;omega,fun x hx=>by have:=hp.fP hx;unfold cE at*;exact Ur this.1 this.2,
  fun x y hx hy e=>hp.inj hx hy (XG (hp.fP hx) (hp.fP hy) e)⟩
theorem zq(hp:gQ m n):Perm (iB m) (4*n) (cE n):=XF hp (-1)
theorem C6{nx:Int->Int}{N:Nat}{S:Int->Prop}(h:Perm nx N S){x:Int}(hx:S x):
  (∀y,y∈c9 nx N x↔ ∃j,it nx j x=y)/\(∀y∈c9 nx N x,S y)/\(∀y∈c9 nx N x,x∈c9 nx N y)/\(∀y∈c9 nx N x,∀z∈c9 nx N y,z∈c9 nx N x)/\x∈c9 nx N x/\(c9 nx N x).length<=N/\(c9 nx N x).Nodup/\ ∃k,k<=N/\xE nx x k/\c9 nx N x=its nx x k:=by
 obtain⟨k,hk,hp⟩:=h.fD hx;have e:=RW hp (N:=N) (by omega);have hm:∀y,y∈c9 nx N x↔ ∃j,it nx j x=y:=fun y=>by rw[e];exact Uq hp
 have hS:∀y∈c9 nx N x,S y:=fun y hy=>by obtain⟨j,rfl⟩:=(hm y).1 hy;exact h.it hx j
 have Gq:∀y,S y->∀z,z∈c9 nx N y↔ ∃j,it nx j y=z:=fun y hy z=>by
  obtain⟨l,hl,hq⟩:=h.fD hy;rw[RW hq (N:=N) (by omega)];exact Uq hq
 refine⟨hm,hS,fun y hy=>?_,fun y hy z hz=>?_,by simp[c9],by rw[e,LQ];exact hk,by rw[e];exact XS h hx hp,k,hk,hp,e⟩
 ·exact(Gq y (hS y hy) x).2 (Yn hp ((hm y).1 hy))
 ·exact(hm z).2 (YI ((hm y).1 hy) ((Gq y (hS y hy) z).1 hz))
theorem y6m(hp:gQ m n)(hn:m.length=4*n){seen:List Bool}(hl:seen.length=4*n){x:Int}(hx:cE n x){k:Nat}(hk:xE (iB m) x k)(hu:∀j,j<k->seen.getD (it (iB m) j x).toNat false=false):
  ∀d j f,d=k-j->j<=k->d<f->mark m f (lH seen (its (iB m) x j)) (it (iB m) j x)=lH seen (its (iB m) x k):=by
 have dL:=zq hp;have hR:∀j,cE n (it (iB m) j x):=fun j=>dL.it hx j;have Wm:∀j,∀g∈its (iB m) x j,0<=g/\g.toNat<seen.length:=fun j g hg=>by
  obtain⟨i,_,rfl⟩:=IF.1 hg
  have:=hR i;unfold cE at this;omega
 have Ay:=hk.pos;intro d
 induction d with
 |zero=>
  intro j f hd hj hf;obtain rfl:j=k:=by omega
  obtain⟨f',rfl⟩:∃f',f=f'+1:=⟨f-1,by omega⟩;simp only[mark];rw[hk.back,zM];rw[Ji _ _ _ (Wm j),Bool.or_eq_true,decide_eq_true_iff];right;have fT:=hx;unfold cE at fT;rw[show ((x.toNat:Nat):Int)=x by omega];exact IF.2 ⟨0,Ay,rfl⟩
 |succ d ih=>
  intro j f hd hj hf;obtain⟨f',rfl⟩:∃f',f=f'+1:=⟨f-1,by omega⟩;have hRj:=hR j;unfold cE at hRj;simp only[mark];rw[zL]
  ·have e1:(lH seen (its (iB m) x j)).set (it (iB m) j x).toNat true=lH seen (its (iB m) x (j+1)):=by
    rw[Tj,Nq];rfl
   rw[e1];exact ih (j+1) f' (by omega) (by omega) (by omega)
  ·rw[Ji _ _ _ (Wm j),hu j (by omega),Bool.false_or,decide_eq_true_iff];rw[show (((it (iB m) j x).toNat:Nat):Int)=it (iB m) j x by omega];intro hm;obtain⟨i,hi,e⟩:=IF.1 hm
   have:=dL.cancel hx i (j-i) (by rw[show i+(j-i)=j by omega];exact e.symm)
   exact hk.first (j-i) (by omega) (by omega) this
def fl(m:List Int)(h:Nat):Bool:=Lt h (c9 (iB m) m.length h)
def gZ(l:List Int)(n:Nat)(p:Int):Nat:=(List.range n).countP fun c=>l.getD c 0==p
def jP(m l:List Int)(h:Nat)(p:Int):Nat:=(List.range h).countP fun i=>fl m i&&l.getD (i/4) 0==p
theorem XE(l:List Int)(n:Nat)(p:Int):gZ l (n+1) p=gZ l n p+if l.getD n 0=p then 1 else 0:=by
 unfold gZ;rw[List.range_succ,List.countP_append];simp[List.countP_cons]
theorem TC(m l:List Int)(h:Nat)(p:Int):jP m l (h+1) p=jP m l h p+if fl m h=true/\l.getD (h/4) 0=p then 1 else 0:=by
 unfold jP;rw[List.range_succ,List.countP_append];simp[List.countP_cons]
theorem RV{part:List Int}{np:Nat}(o8:∀c,c<part.length->0<=part.getD c 0/\part.getD c 0<np){p:Nat}(h:p<np):∀k,k<=part.length->(iJ part np k).getD p 0= -(gZ part k p:Int)
 |0,_=>by simp[iJ,gZ,h]
 |k+1,hk=>by
  have ih:=RV o8 h k (by omega);have hl:=(IG part np k).1;have hr:=o8 k (by omega);simp only[iJ];rw[XE];by_cases e:(part.getD k 0).toNat=p
  ·rw[e,pZ (by omega),zM (by omega),ih];omega
  ·rw[oH e,zL (by omega),ih];omega
theorem RU(hp:gQ m n)(hm:m.length=4*n){part:List Int}{np:Nat}(gq:part.length=n)(o8:∀c,c<n->0<=part.getD c 0/\part.getD c 0<np):∀h,h<=4*n->
  (∀p:Nat,p<np->(bZ m part np h).1.getD p 0=(jP m part h p:Int)-gZ part n p)/\
  ∀g:Nat,g<4*n->((bZ m part np h).2.getD g false=true↔ ∃x:Nat,x<h/\(g:Int)∈c9 (iB m) m.length x)
 |0,_=>by
  refine⟨fun p aC=>?_,fun g hg=>by simp[bZ,hm,hg]⟩;simp only[bZ];rw[RV (fun c hc=>o8 c (by omega)) aC _ (zA _),gq];simp[jP]
 |h+1,hh=>by
  obtain⟨h1,h2⟩:=RU hp hm gq o8 h (by omega);obtain⟨l1,l2,_⟩:=CR m part np h;have hR:∀x:Nat,x<4*n->cE n (x:Int):=fun x hx=>by unfold cE;omega
  have BI:=fun (x:Nat) (hx:x<4*n)=>by
   have:=C6 (zq hp) (hR x hx)
   rw[<-hm]at this;exact this
  have BB:=h2 h (by omega);simp only[bZ,vm];by_cases hs:(bZ m part np h).2.getD h false=true
  ·rw[zM hs];obtain⟨x,hx,Wa⟩:=BB.1 hs;have qT:fl m h=false:=by
    cases hf:fl m h with
    |false=>rfl
    |true=>
     have:=Nf.1 hf x ((BI x (by omega)).2.2.1 h Wa);omega
   refine⟨fun p aC=>by rw[TC,zL (by simp[qT]),h1 p aC];omega,fun g hg=>?_⟩;rw[h2 g hg];constructor
   ·rintro⟨y,hy,h3⟩;exact⟨y,by omega,h3⟩
   ·rintro⟨y,hy,h3⟩;rcases zY y h with q|q
    ·exact⟨y,q,h3⟩
    ·obtain rfl:y=h:=by omega
     exact⟨x,hx,(BI x (by omega)).2.2.2.1 y Wa g h3⟩
  ·rw[zL hs];obtain⟨o1,o2,o3,o4,o5,o6,o7,k,hk,tT,dt⟩:=BI h (by omega);have qT:fl m h=true:=Nf.2 fun y hy=>by
    have hr:=o2 y hy;unfold cE at hr;obtain⟨z,rfl⟩:∃z:Nat,y=z:=⟨y.toNat,by omega⟩;rcases zY z h with q|q
    ·exact zzA (BB.2 ⟨z,q,o3 z hy⟩) hs
    ·omega
   have DF:mark m (m.length+1) (bZ m part np h).2 h=lH (bZ m part np h).2 (c9 (iB m) m.length h):=by
    rw[dt];refine y6m hp hm (by omega) (hR h (by omega)) tT (fun j hj=>?_) k 0 (m.length+1) (by omega) (by omega) (by omega);have wi:it (iB m) j h∈c9 (iB m) m.length h:=(o1 _).2 ⟨j,rfl⟩;have hjr:=o2 _ wi;unfold cE at hjr;cases WJ:(bZ m part np h).2.getD (it (iB m) j h).toNat false with
    |false=>rfl
    |true=>
     obtain⟨y,hy,h3⟩:=(h2 _ (by omega)).1 WJ;rw[show (((it (iB m) j h).toNat:Nat):Int)=it (iB m) j h by omega]at h3;exact zzA (BB.2 ⟨y,hy,(BI y (by omega)).2.2.2.1 _ h3 _ (o3 _ wi)⟩) hs
   have Gg:=o8 (h/4) (by omega);refine⟨fun p aC=>?_,fun g hg=>?_⟩
   ·rw[TC];simp only;by_cases e:(part.getD (h/4) 0).toNat=p
    ·rw[e,pZ (by omega),zM ⟨qT,by omega⟩,h1 p aC];omega
    ·rw[oH e,zL (by omega),h1 p aC];omega
   ·simp only;rw[DF,Ji _ _ _ (fun y hy=>by have:=o2 y hy;unfold cE at this;omega),Bool.or_eq_true,h2 g hg,decide_eq_true_iff];constructor
    ·rintro (⟨x,h4,h5⟩|h4)
     ·exact⟨x,by omega,h5⟩
     ·exact⟨h,by omega,h4⟩
    ·rintro⟨x,h4,h6⟩;rcases zY x h with q|q
     ·exact .inl ⟨x,q,h6⟩
     ·obtain rfl:x=h:=by omega
      exact .inr h6
theorem y2w(hp:gQ m n):oK m n=true↔ ∀p:Nat,(p:Int)<(dY m n).2->jP m (dY m n).1 (4*n) p=gZ (dY m n).1 n p+2:=by
 obtain⟨p1,p2,p3,p4⟩:=EU hp.ok;have hm:=hp.ok.1;have h1:=(RU hp hm p1 (np:=(dY m n).2.toNat) (fun c hc=>by have:=p4 c hc;omega) (4*n) (zA _)).1;have hlen:=(CR m (dY m n).1 (dY m n).2.toNat (4*n)).1;unfold oK;rw[hm,zZ];constructor
 ·intro h p aC;have h2:=h1 p (by omega);have yD:(bZ m (dY m n).1 (dY m n).2.toNat (4*n)).1.getD p 0∈(bZ m (dY m n).1 (dY m n).2.toNat (4*n)).1:=by
   rw[zB,zJ (by omega)];exact List.getElem_mem _
  have:=h _ yD
  simp only[beq_iff_eq]at this;omega
 ·intro h x hx;obtain⟨i,hi,rfl⟩:=List.mem_iff_getElem.1 hx;have h2:=h1 i (by omega);have h3:=h i (by omega);rw[zB,zJ hi]at h2;simp only[Option.getD_some]at h2;simp only[beq_iff_eq];omega
def qj(m:List Int)(n:Nat):Bool:=(List.range n).all fun c=> !((dZ m n n).getD c 0==(c:Int))||jP m (dZ m n n) (4*n) c==gZ (dZ m n n) n c+2
theorem S4:qj m n=true↔ ∀c,c<n->(dZ m n n).getD c 0=c->jP m (dZ m n n) (4*n) c=gZ (dZ m n n) n c+2:=by
 unfold qj;rw[zZ];constructor
 ·intro h c hc e
  have:=h c (zK.2 hc)
  rw[e]at this;simpa using this
 ·intro h c hc;by_cases e:(dZ m n n).getD c 0=(c:Int)
  ·rw[h c (zK.1 hc) e];simp
  ·have:((dZ m n n).getD c 0==(c:Int))=false:=by simpa using e
   rw[this];rfl
theorem XD{l l':List Int}{p p':Int}(h:∀b,b<n->(l.getD b 0=p↔l'.getD b 0=p')):gZ l n p=gZ l' n p'/\jP m l (4*n) p=jP m l' (4*n) p':=by
 constructor
 ·unfold gZ;refine List.countP_congr fun b hb=>?_;simp only[beq_iff_eq];exact h b (zK.1 hb)
 ·unfold jP;refine List.countP_congr fun b hb=>?_
  have:=zK.1 hb
  simp only[zV,beq_iff_eq];rw[h (b/4) (by omega)]
theorem Z1(hp:gQ m n):oK m n=qj m n:=by
 obtain⟨p1,p2,p3,p4⟩:=EU hp.ok;have key:∀a,a<n->∃u,u<n/\(dZ m n n).getD u 0=u/\gZ (dY m n).1 n ((dY m n).1.getD a 0)=gZ (dZ m n n) n u/\jP m (dY m n).1 (4*n) ((dY m n).1.getD a 0)=jP m (dZ m n n) (4*n) u/\(dZ m n n).getD a 0=u:=by
  intro a ha;obtain⟨u,hu,JV,mJ⟩:=LP hp ha;have Kf:=XD (m:=m) (n:=n) (l:=(dY m n).1) (l':=dZ m n n) (p:=(dY m n).1.getD a 0) (p':=u) (fun b hb=>by
   rw[mJ b hb];constructor
   ·intro e;exact(Nd hp ha hb).1 e.symm
   ·intro e;exact((Nd hp ha hb).2 e).symm)
  exact⟨u,hu,(mJ u hu).2 (JV.symm hp hu),Kf.1,Kf.2,(mJ a ha).2 (.refl _)⟩
 rw[Bool.eq_iff_iff,y2w hp,S4];constructor
 ·intro h c hc e;obtain⟨u,hu,_,h1,h2,h3⟩:=key c hc
  have:u=c:=by omega
  subst this;have h4:=p4 u hc;have h5:=h ((dY m n).1.getD u 0).toNat (by omega);rw[show (((dY m n).1.getD u 0).toNat:Int)=(dY m n).1.getD u 0 by omega,h1,h2]at h5;exact h5
 ·intro h p aC;obtain⟨a,ha,e⟩:=T8 hp aC;obtain⟨u,hu,h0,h1,h2,_⟩:=key a ha;have h5:=h u hu h0;rw[e]at h1 h2;omega
end
theorem XC{s m:List Int}{L:Int}(h:xc s m L=true):gQ m s.length:=by
 unfold xc at h;obtain⟨_,h2,_,_,_,h6⟩:=of_decide_eq_true h;exact⟨⟨h2,fun i hi=>⟨(h6 i hi).1,(h6 i hi).2.1⟩⟩,fun i hi=>(h6 i hi).2.2.2.1⟩
def Ee(s m:List Int)(L:Int):Bool:=xc s m L&&qj m s.length
theorem Mt(s m:List Int)(L:Int):bG s m L=Ee s m L:=by
 unfold bG Ee;cases h:xc s m L with
 |false=>rfl
 |true=>rw[Z1 (XC h)]
theorem u6(h:Int):kH h 1=h-h % 4+(h % 4+5)% 4:=by
 have:(1:Int).tmod 4=1:=by decide
 unfold kH;rw[this];omega
theorem ur(h:Int):kH h (-1)=h-h % 4+(h % 4+3)% 4:=by
 have:(-1:Int).tmod 4= -1:=by decide
 unfold kH;rw[this];omega
def bV(b:Bool)(h:Int):Int:=if decide (h % 2=1)=b then kH h 1 else kH h (-1)
theorem zn(b:Bool)(h:Int):bV b h/4=h/4:=by
 unfold bV;rw[u6,ur];split<;>omega
theorem IE(b:Bool)(h:Int):bV b (bV b h)=h:=by
 unfold bV;rw[u6,ur];cases b
 ·by_cases e:h % 2=1
  ·simp only[e,decide_true,Bool.true_eq_false,if_false]
   have:¬(h-h % 4+(h % 4+3)% 4)% 2=1:=by omega
   simp only[this,decide_false,if_true];rw[u6];omega
  ·simp only[e,decide_false,if_true]
   have:(h-h % 4+(h % 4+5)% 4)% 2=1:=by omega
   simp only[this,decide_true,Bool.true_eq_false,if_false];rw[ur];omega
 ·by_cases e:h % 2=1
  ·simp only[e,decide_true,if_true]
   have:¬(h-h % 4+(h % 4+5)% 4)% 2=1:=by omega
   simp only[this,decide_false,Bool.false_eq_true,if_false];rw[ur];omega
  ·simp only[e,decide_false,Bool.false_eq_true,if_false]
   have:(h-h % 4+(h % 4+3)% 4)% 2=1:=by omega
   simp only[this,decide_true,if_true];rw[u6];omega
theorem Z0(b:Bool)(h:Int):bV b h≠h:=by
 unfold bV;rw[u6,ur];split<;>omega
def fk(m:List Int)(b:Bool)(c:Int):Nat->Int->Int
 |0,x=>x
 |f+1,x=>if x/4=c then fk m b c f (m.getD (bV b x).toNat 0) else x
theorem LO{m:List Int}{b:Bool}{c:Int}{f:Nat}{x:Int}(h:x/4=c):fk m b c (f+1) x=fk m b c f (m.getD (bV b x).toNat 0):=by simp only[fk,h,if_true]
theorem LN{m:List Int}{b:Bool}{c:Int}{f:Nat}{x:Int}(h:¬x/4=c):fk m b c f x=x:=by cases f<;>simp only[fk,h,if_false]
section
variable{m:List Int}{n:Nat}{b:Bool}{c:Nat}
def ma(m:List Int)(b:Bool)(x:Int):Int:=m.getD (bV b x).toNat 0
theorem y6n(hp:gQ m n)(hc:c<n){x y:Int}(hx:x/4=c)(hy:y/4=c)(e:ma m b x=ma m b y):x=y:=by
 have h1:=zn b x;have h2:=zn b y
 have:=hp.inj (x:=bV b x) (y:=bV b y) (by unfold cE;omega) (by unfold cE;omega) e
 have h3:=congrArg (bV b) this;rwa [IE,IE]at h3
theorem y6o(f:Nat)(x:Int)(h:fk m b c f x/4=c):∀i,i<=f->it (ma m b) i x/4=(c:Int):=by
 induction f generalizing x with
 |zero=>
  intro i hi;obtain rfl:i=0:=by omega
  exact h
 |succ f ih=>
  intro i hi;unfold fk at h;by_cases e:x/4=(c:Int)
  ·rw[zM e]at h;cases i with
   |zero=>exact e
   |succ i=>
    have:=ih _ h i (by omega)
    have e2:it (ma m b) (i+1) x=it (ma m b) i (ma m b x):=by rw[Ib];rfl
    rw[e2];exact this
  ·rw[zL e]at h;exact zzA h e
theorem Ms(hp:gQ m n)(hc:c<n){h:Nat}(hh:h<4*n)(ho:h/4≠c):fk m b c 5 (m.getD h 0)/4≠(c:Int):=by
 intro kz;have yH:=y6o 5 (m.getD h 0) kz;obtain⟨i,j,lk,hj,e⟩:=Lu 4 (fun i=>(it (ma m b) i (m.getD h 0)-4*c).toNat) (fun i hi=>by have:=yH i (by omega);omega);have uM:=yH i (by omega);have gU:=yH j (by omega);have e':it (ma m b) i (m.getD h 0)=it (ma m b) j (m.getD h 0):=by omega
 have key:∀i j,i<j->j<=5->it (ma m b) i (m.getD h 0)=it (ma m b) j (m.getD h 0)->m.getD h 0=it (ma m b) (j-i) (m.getD h 0):=by
  intro i
  induction i with
  |zero=>intro j _ _ e;simpa [it] using e
  |succ i ih=>
   intro j lk hj e
   have:=ih (j-1) (by omega) (by omega) (y6n hp hc (yH i (by omega)) (yH (j-1) (by omega)) (by
    have:it (ma m b) j (m.getD h 0)=ma m b (it (ma m b) (j-1) (m.getD h 0)):=by
     conv=>lhs;rw[show j=(j-1)+1 by omega]
     rfl
    rw[<-this,<-e];rfl))
   rw[show j-(i+1)=j-1-i by omega];exact this
 have h0:=key i j lk (by omega) e';have h1:it (ma m b) (j-i) (m.getD h 0)=ma m b (it (ma m b) (j-i-1) (m.getD h 0)):=by
  conv=>lhs;rw[show j-i=(j-i-1)+1 by omega]
  rfl
 rw[h1]at h0;have h2:=yH (j-i-1) (by omega);have h3:=zn b (it (ma m b) (j-i-1) (m.getD h 0));have hr:=hp.ok.2 h hh;have h4:=hp.inv h hh;unfold ma at h0;have h5:=hp.inv (bV b (it (ma m b) (j-i-1) (m.getD h 0))).toNat (by omega);unfold ma at h5;rw[<-h0,h4]at h5;unfold ma at h3 h2;omega
def kc(m:List Int)(b:Bool)(c:Nat):Nat->List Int
 |0=>m
 |h+1=>if h/4=c then kc m b c h else (kc m b c h).set h (fk m b c 5 (m.getD h 0))
theorem RT(h:Nat):(kc m b c h).length=m.length:=by
 induction h with
 |zero=>rfl
 |succ h ih=>simp only[kc];split<;>simp[ih]
theorem y2x(hp:gQ m n)(hc:c<n):∀f x,cE n x->cE n (fk m b c f x):=by
 intro f
 induction f with
 |zero=>intro x h;exact h
 |succ f ih=>
  intro x h;unfold fk
  split
  ·rename_i e
   have:=zn b x
   exact ih _ (hp.fP (by unfold cE;omega))
  ·exact h
end
def q7(m:List Int)(c:Nat)(h:Nat):Int:=if (c:Int)<m.getD h 0/4 then m.getD h 0-4 else m.getD h 0
def Bh(m:List Int)(c k:Nat)(l:List Int):Nat->List Int
 |0=>l
 |x+1=>Bh m c k l x++[q7 m c (4*k+x)]
def ks(m:List Int)(c:Nat):Nat->List Int
 |0=>[]
 |k+1=>if k=c then ks m c k else Bh m c k (ks m c k) 4
def Fh(m:List Int)(g:Int):Int:=kH (m.getD g.toNat 0) 2
def y2y(s m:List Int):List (List Int):=(bt m.length (aB s) (c9 (Fh m) m.length) m.length).1
structure Ed(s m:List Int)(L:Int):Prop where
 s64:s.length<=64
 len:m.length=4*s.length
 l0:0<=L
 mj:L<=64
 sg:vd s s.length
 mt:xd s m (4*s.length)
 prd:gQ m s.length
theorem gP{s m:List Int}{L:Int}(h:bG s m L=true):Ed s m L:=by
 obtain⟨⟨h1,h2,h3,h4,h5,h6⟩,_⟩:=Ng.1 h;exact⟨h1,h2,h3,h4,h5,h6,⟨h2,fun i hi=>⟨(h6 i hi).1,(h6 i hi).2.1⟩⟩,fun i hi=>(h6 i hi).2.2.2.1⟩
theorem I6{N:Nat}{want:Int->Bool}{b8:Int->List Int}:∀h,∀l∈(bt N want b8 h).1,∃x:Nat,x<h/\want x=true/\l=b8 x
 |0,l,hl=>by simp[bt]at hl
 |h+1,l,hl=>by
  simp only[bt,nR]at hl
  split at hl
  ·obtain⟨x,h1,h2⟩:=I6 h l hl;exact⟨x,by omega,h2⟩
  ·rename_i hc
   rcases List.mem_append.1 hl with hl|hl
   ·obtain⟨x,h1,h2⟩:=I6 h l hl;exact⟨x,by omega,h2⟩
   ·refine⟨h,by omega,?_,zP.1 hl⟩;cases hw:want h with
    |true=>rfl
    |false=>rw[hw]at hc;simp at hc
def iL(R:List Int)(g h:Nat):List Int:=if R.getD g 0=R.getD h 0 then R else R.map fun r=>if r=R.getD g 0 then R.getD h 0 else r
def roots(R:List Int):Nat:=(List.range R.length).countP fun x=>R.getD x 0==(x:Int)
structure nT(R:List Int)(N:Nat):Prop where
 len:R.length=N
 fP:∀x,x<N->0<=R.getD x 0/\R.getD x 0<N
 idem:∀x,x<N->R.getD (R.getD x 0).toNat 0=R.getD x 0
theorem YH{α β:Type}(l:List α)(f:α->β)(i:Nat)(d:α)(e:β)(h:i<l.length):(l.map f).getD i e=f (l.getD i d):=by simp[h]
section
variable{R:List Int}{N:Nat}
theorem TB(R:List Int)(g h:Nat):(iL R g h).length=R.length:=by unfold iL;split<;>simp
theorem pU(hl:R.length=N){g h x:Nat}(hx:x<N):(iL R g h).getD x 0=if R.getD x 0=R.getD g 0 then R.getD h 0 else R.getD x 0:=by
 unfold iL
 split
 ·rename_i e;split
  ·omega
  ·rfl
 ·rw[YH _ _ _ 0 _ (by omega)]
theorem Jh(hR:nT R N){g h:Nat}(hg:g<N)(hh:h<N):nT (iL R g h) N:=by
 refine⟨by rw[TB];exact hR.len,fun x hx=>?_,fun x hx=>?_⟩
 ·rw[pU hR.len hx];have:=hR.fP x hx;have:=hR.fP h hh;split<;>omega
 ·rw[pU hR.len hx];have r1:=hR.fP x hx;have r2:=hR.fP h hh;by_cases e:R.getD x 0=R.getD g 0
  ·rw[zM e,pU hR.len (by omega),hR.idem h hh];split<;>rfl
  ·rw[zL e,pU hR.len (by omega),hR.idem x hx,zL e]
theorem C5(hl:R.length=N){g h x y:Nat}(hx:x<N)(hy:y<N)(e:R.getD x 0=R.getD y 0):(iL R g h).getD x 0=(iL R g h).getD y 0:=by
 rw[pU hl hx,pU hl hy,e]
theorem Nc(hl:R.length=N){g h:Nat}(hg:g<N)(hh:h<N):(iL R g h).getD g 0=(iL R g h).getD h 0:=by
 rw[pU hl hg,pU hl hh,zM rfl];split<;>rfl
theorem YG(p q:Nat->Bool)(N a:Nat)(ha:a<N)(h1:p a=true)(h2:q a=false)(h:∀x,x<N->x≠a->p x=q x):(List.range N).countP p=(List.range N).countP q+1:=by
 induction N with
 |zero=>omega
 |succ N ih=>
  rw[List.range_succ,List.countP_append,List.countP_append];by_cases e:a=N
  ·subst e
   have:(List.range a).countP p=(List.range a).countP q:=List.countP_congr fun x hx=>by
    have:=zK.1 hx
    rw[h x (by omega) (by omega)]
   simp[this,h1,h2]
  ·have:=ih (by omega) (fun x hx hn=>h x (by omega) hn)
   have e2:=h N (by omega) (by omega);simp only[List.countP_cons,List.countP_nil,e2];omega
theorem YF(hR:nT R N){g h:Nat}(hg:g<N)(hh:h<N)(aJ:R.getD g 0≠R.getD h 0):roots R=roots (iL R g h)+1:=by
 have r1:=hR.fP g hg;unfold roots;rw[TB];have hl:=hR.len;refine YG _ _ R.length (R.getD g 0).toNat (by omega) ?_ ?_ ?_
 ·rw[hR.idem g hg];simp only[beq_iff_eq];omega
 ·rw[pU hR.len (by omega),hR.idem g hg,zM rfl];simp only[zX,ne_eq];omega
 ·intro x hx hn;rw[pU hR.len (by omega)];by_cases e:R.getD x 0=R.getD g 0
  ·rw[zM e,e];have e1:(R.getD g 0==(x:Int))=false:=by simp only[zX,ne_eq];omega
   have e2:(R.getD h 0==(x:Int))=false:=by
    simp only[zX,ne_eq];intro e3
    have:=hR.idem h hh
    rw[e3]at this;simp only[zD]at this;omega
   rw[e1,e2]
  ·rw[zL e]
end
structure Inv2(n:Nat)(mt jn:Int->Int):Prop where
 mr:∀x,cE n x->cE n (mt x)
 jr:∀x,cE n x->cE n (jn x)
 mm:∀x,cE n x->mt (mt x)=x
 jj:∀x,cE n x->jn (jn x)=x
 mf:∀x,cE n x->mt x≠x
 jf:∀x,cE n x->jn x≠x
inductive fj(mt jn:Int->Int):Int->Int->Prop
 |refl (x:Int):fj mt jn x x
 |mate {x y:Int} (h:fj mt jn x y):fj mt jn x (mt y)
 |join {x y:Int} (h:fj mt jn x y):fj mt jn x (jn y)
section
variable{n:Nat}{mt jn:Int->Int}
theorem fj.trans{x y z:Int}(h1:fj mt jn x y)(h2:fj mt jn y z):fj mt jn x z:=by
 induction h2 with
 |refl=>exact h1
 |mate _ ih=>exact .mate ih
 |join _ ih=>exact .join ih
theorem fj.fP(hi:Inv2 n mt jn){x y:Int}(h:fj mt jn x y)(hx:cE n x):cE n y:=by
 induction h with
 |refl=>exact hx
 |mate _ ih=>exact hi.mr _ ih
 |join _ ih=>exact hi.jr _ ih
theorem fj.symm(hi:Inv2 n mt jn){x y:Int}(h:fj mt jn x y)(hx:cE n x):fj mt jn y x:=by
 induction h with
 |refl=>exact .refl _
 | @mate y h ih=>
   have h1:=fj.mate (mt:=mt) (jn:=jn) (fj.refl (mt y));rw[hi.mm y (h.fP hi hx)]at h1;exact h1.trans ih
 | @join y h ih=>
   have h1:=fj.join (mt:=mt) (jn:=jn) (fj.refl (jn y));rw[hi.jj y (h.fP hi hx)]at h1;exact h1.trans ih
structure sJ(n:Nat)(mt jn:Int->Int)(R:List Int):Prop where
 rep:nT R (4*n)
 iff:∀x y:Nat,x<4*n->y<4*n->(R.getD x 0=R.getD y 0↔fj mt jn x y)
theorem sJ.of{R:List Int}(hi:Inv2 n mt jn)(hR:nT R (4*n))(h1:∀x y:Nat,x<4*n->y<4*n->R.getD x 0=R.getD y 0->fj mt jn x y)
  (h2:∀x:Nat,x<4*n->R.getD (mt x).toNat 0=R.getD x 0) (h3:∀x:Nat,x<4*n->R.getD (jn x).toNat 0=R.getD x 0):sJ n mt jn R:=by
 refine⟨hR,fun x y hx hy=>⟨h1 x y hx hy,fun h=>?_⟩⟩;have key:∀z,fj mt jn x z->R.getD z.toNat 0=R.getD x 0:=by
  intro z hz
  induction hz with
  |refl=>simp
  | @mate y h ih=>
    have:=h.fP hi (by unfold cE;omega)
    unfold cE at this;have h4:=h2 y.toNat (by omega);rw[show ((y.toNat:Nat):Int)=y by omega]at h4;rw[h4,ih]
  | @join y h ih=>
    have:=h.fP hi (by unfold cE;omega)
    unfold cE at this;have h4:=h3 y.toNat (by omega);rw[show ((y.toNat:Nat):Int)=y by omega]at h4;rw[h4,ih]
 have:=key y h
 simpa using this.symm
theorem Nv:∀{l k:List Nat},l.Nodup->(∀x∈l,x∈k)->l.length<=k.length
 |[],_,_,_=>Nat.zero_le _
 |x::l,k,hn,hs=>by
  have hx:=hs x (by simp);obtain⟨fT,Pb⟩:=List.nodup_cons.1 hn
  have:=Nv (l:=l) (k:=k.erase x) Pb (fun y hy=>(List.mem_erase_of_ne (by intro e;subst e;exact fT hy)).2 (hs y (by simp[hy])))
  have h2:=List.length_erase_of_mem hx;have h3:=List.length_pos_of_mem hx;simp only[zH];omega
theorem LM(hi:Inv2 n mt jn):Perm (fun x=>jn (mt x)) (4*n) (cE n):=
 ⟨fun x hx=>by unfold cE at hx;omega,fun x hx=>hi.jr _ (hi.mr _ hx),fun x y hx hy e=>by
  have h1:=congrArg jn e;rw[hi.jj _ (hi.mr _ hx),hi.jj _ (hi.mr _ hy)]at h1;have h2:=congrArg mt h1;rwa [hi.mm _ hx,hi.mm _ hy]at h2⟩
theorem y2z(hi:Inv2 n mt jn){x:Int}(hx:cE n x):∀d i j,i+d=j->it (fun x=>jn (mt x)) j x≠mt (it (fun x=>jn (mt x)) i x)/\it (fun x=>jn (mt x)) i x≠mt (it (fun x=>jn (mt x)) j x):=by
 have hR:∀j,cE n (it (fun x=>jn (mt x)) j x):=fun j=>(LM hi).it hx j;have GA:∀i j,it (fun x=>jn (mt x)) j x=mt (it (fun x=>jn (mt x)) i x)->it (fun x=>jn (mt x)) i x=mt (it (fun x=>jn (mt x)) j x):=fun i j e=>by rw[e,hi.mm _ (hR i)]
 intro d
 induction d using Nat.strongRecOn with
 |_ d ih=>
  intro i j hd;have key:it (fun x=>jn (mt x)) j x≠mt (it (fun x=>jn (mt x)) i x):=by
   intro e;by_cases h0:d=0
   ·obtain rfl:j=i:=by omega
    exact hi.mf _ (hR j) e.symm
   ·by_cases h1:d=1
    ·obtain rfl:j=i+1:=by omega
     exact hi.jf _ (hi.mr _ (hR i)) e
    ·--shift both towards each other
     have e2:it (fun x=>jn (mt x)) (i+1) x=mt (it (fun x=>jn (mt x)) (j-1) x):=by
      show jn (mt (it (fun x=>jn (mt x)) i x))=_;rw[<-e]
      conv=>lhs;rw[show j=(j-1)+1 by omega]
      exact hi.jj _ (hi.mr _ (hR (j-1)))
     exact(ih (d-2) (by omega) (i+1) (j-1) (by omega)).2 e2
  exact⟨key,fun e=>key (GA j i e)⟩
end
def ke(m:List Int):Nat->List Int
 |0=>(List.range m.length).map (Nat.cast:Nat->Int)
 |k+1=>if (k:Int)<m.getD k 0 then iL (ke m k) k (m.getD k 0).toNat else ke m k
def ff(m:List Int)(ch:Nat->Bool):Nat->List Int
 |0=>ke m m.length
 |k+1=>if ch k then iL (iL (ff m ch k) (4*k+1) (4*k+2)) (4*k+3) (4*k) else iL (iL (ff m ch k) (4*k) (4*k+1)) (4*k+2) (4*k+3)
theorem Ym(N:Nat):roots ((List.range N).map (Nat.cast:Nat->Int))=N:=by
 unfold roots;rw[List.length_map,List.length_range]
 have:(List.range N).countP (fun x=>((List.range N).map (Nat.cast:Nat->Int)).getD x 0==(x:Int))=(List.range N).length:=by
  rw[List.countP_eq_length];intro x hx
  have:=zK.1 hx
  simp[this]
 rw[this,List.length_range]
structure UF(l R:List Int)(N:Nat):Prop where
 rep:nT R N
 len:l.length=N
 fP:∀x,x<N->0<=l.getD x 0/\l.getD x 0<N
 same:∀x,x<N->R.getD (l.getD x 0).toNat 0=R.getD x 0
 root:∀x:Nat,x<N->(l.getD x 0=x↔R.getD x 0=x)
 rank:∃rk:Nat->Nat,∀x:Nat,x<N->l.getD x 0≠x->rk (l.getD x 0).toNat<rk x
theorem rm{l:List Int}{i:Nat}{v:Int}(h:i<l.length):(l.set i v).getD i 0=v:=by simp[h]
theorem rM{l:List Int}{i j:Nat}{v:Int}(h:i≠j):(l.set i v).getD j 0=l.getD j 0:=by simp[zB,List.getElem?_set_ne h]
section
variable{l R:List Int}{N:Nat}
theorem UF.Vt(h:UF l R N){rk:Nat->Nat}(hr:∀x:Nat,x<N->l.getD x 0≠x->rk (l.getD x 0).toNat<rk x):∀(n x:Nat),rk x<=n->x<N->R.getD x 0≠x->rk (R.getD x 0).toNat<rk x
 |n,x,hn,hx,aJ=>by
  have h1:=h.fP x hx;have h2:=hr x hx (fun e=>aJ ((h.root x hx).1 e));have h3:=h.same x hx;by_cases e:R.getD (l.getD x 0).toNat 0=((l.getD x 0).toNat:Int)
  ·rw[<-h3,e,zD];exact h2
  ·match n,hn with
   |0,hn=>omega
   |n+1,hn=>
    have:=UF.Vt h hr n (l.getD x 0).toNat (by omega) (by omega) e
    rw[h3]at this;omega
theorem UF.half(h:UF l R N){x:Nat}(hx:x<N)(aJ:l.getD x 0≠x):UF (l.set x (l.getD (l.getD x 0).toNat 0)) R N:=by
 have h1:=h.fP x hx;have h2:=h.fP (l.getD x 0).toNat (by omega);obtain⟨rk,hr⟩:=h.rank;have r1:=hr x hx aJ;have r2:rk (l.getD (l.getD x 0).toNat 0).toNat<=rk (l.getD x 0).toNat:=by
  by_cases e:l.getD (l.getD x 0).toNat 0=((l.getD x 0).toNat:Int)
  ·rw[e,zD];exact zA _
  ·exact Nat.le_of_lt (hr _ (by omega) e)
 refine⟨h.rep,by simp[h.len],fun y hy=>?_,fun y hy=>?_,fun y hy=>?_,rk,fun y hy tU=>?_⟩
 ·by_cases e:x=y
  ·subst e;rw[rm (by rw[h.len];exact hx)];exact h2
  ·rw[rM e];exact h.fP y hy
 ·by_cases e:x=y
  ·subst e;rw[rm (by rw[h.len];exact hx),h.same _ (by omega),h.same _ hx]
  ·rw[rM e];exact h.same y hy
 ·by_cases e:x=y
  ·subst e;rw[rm (by rw[h.len];exact hx)];constructor
   ·intro e2;rw[e2]at r2;simp only[zD]at r2;omega
   ·intro e2;exact zzA ((h.root x hx).2 e2) aJ
  ·rw[rM e];exact h.root y hy
 ·by_cases e:x=y
  ·subst e;rw[rm (by rw[h.len];exact hx)];omega
  ·rw[rM e]at tU⊢;exact hr y hy tU
theorem UF.put(h:UF l R N){x:Nat}(hx:x<N):UF (l.set x (R.getD x 0)) R N:=by
 obtain⟨rk,hr⟩:=h.rank;have h1:=h.rep.fP x hx;refine⟨h.rep,by simp[h.len],fun y hy=>?_,fun y hy=>?_,fun y hy=>?_,rk,fun y hy tU=>?_⟩
 ·by_cases e:x=y
  ·subst e;rw[rm (by rw[h.len];exact hx)];exact h1
  ·rw[rM e];exact h.fP y hy
 ·by_cases e:x=y
  ·subst e;rw[rm (by rw[h.len];exact hx),h.rep.idem _ hx]
  ·rw[rM e];exact h.same y hy
 ·by_cases e:x=y
  ·subst e;rw[rm (by rw[h.len];exact hx)]
  ·rw[rM e];exact h.root y hy
 ·by_cases e:x=y
  ·subst e;rw[rm (by rw[h.len];exact hx)]at tU⊢;exact h.Vt hr (rk x) x (zA _) hx tU
  ·rw[rM e]at tU⊢;exact hr y hy tU
theorem UF.join(h:UF l R N){g k:Nat}(hg:g<N)(hk:k<N)(aJ:R.getD g 0≠R.getD k 0):UF (l.set (R.getD g 0).toNat (R.getD k 0)) (iL R g k) N:=by
 obtain⟨rk,hr⟩:=h.rank;have g1:=h.rep.fP g hg;have k1:=h.rep.fP k hk;have gi:=h.rep.idem g hg;have ki:=h.rep.idem k hk;have hl:=h.rep.len;have hG:(R.getD g 0).toNat<l.length:=by rw[h.len];omega
 refine⟨Jh h.rep hg hk,by simp[h.len],fun y hy=>?_,fun y hy=>?_,fun y hy=>?_,fun x=>if R.getD x 0=R.getD g 0 then rk x+rk (R.getD k 0).toNat+1 else rk x,fun y hy tU=>?_⟩
 ·by_cases e:(R.getD g 0).toNat=y
  ·subst e;rw[rm hG];exact k1
  ·rw[rM e];exact h.fP y hy
 ·by_cases e:(R.getD g 0).toNat=y
  ·subst e;rw[rm hG,pU hl (by omega),pU hl (by omega),gi,ki,zM rfl]
   split<;>rfl
  ·have:=h.fP y hy
   rw[rM e,pU hl (by omega),pU hl hy,h.same y hy]
 ·by_cases e:(R.getD g 0).toNat=y
  ·subst e;rw[rm hG,pU hl (by omega),gi,zM rfl]
  ·rw[rM e,pU hl hy,h.root y hy]
   split
   ·rename_i e2
    constructor
    ·intro e3;omega
    ·intro e3;exfalso
     have:R.getD y 0=R.getD k 0:=by
      have hyk:(R.getD k 0).toNat=y:=by omega
      rw[hyk]at ki;exact ki
     omega
   ·rfl
 ·by_cases e:(R.getD g 0).toNat=y
  ·subst e;rw[rm hG];simp only[gi,ki,if_true];rw[zL (fun e=>aJ e.symm)];omega
  ·rw[rM e]at tU⊢
   have:=hr y hy tU
   simp only[h.same y hy]
   split<;>omega
theorem UF.GP(h:UF l R N){rk:Nat->Nat}(hr:∀x:Nat,x<N->l.getD x 0≠x->rk (l.getD x 0).toNat<rk x){x:Nat}(hx:x<N)(aJ:l.getD x 0≠x):
  (∀y:Nat,y<N->(l.set x (l.getD (l.getD x 0).toNat 0)).getD y 0≠y->rk ((l.set x (l.getD (l.getD x 0).toNat 0)).getD y 0).toNat<rk y)/\rk (l.getD (l.getD x 0).toNat 0).toNat<rk x/\
  (∀y,y<N->l.getD y 0=R.getD y 0->(l.set x (l.getD (l.getD x 0).toNat 0)).getD y 0=R.getD y 0):=by
 have h1:=h.fP x hx;have r1:=hr x hx aJ;have r2:rk (l.getD (l.getD x 0).toNat 0).toNat<=rk (l.getD x 0).toNat:=by
  by_cases e:l.getD (l.getD x 0).toNat 0=((l.getD x 0).toNat:Int)
  ·rw[e,zD];exact zA _
  ·exact Nat.le_of_lt (hr _ (by omega) e)
 refine⟨fun y hy tU=>?_,by omega,fun y hy e0=>?_⟩
 ·by_cases e:x=y
  ·subst e;rw[rm (by rw[h.len];exact hx)];omega
  ·rw[rM e]at tU⊢;exact hr y hy tU
 ·by_cases e:x=y
  ·subst e;rw[rm (by rw[h.len];exact hx),e0];have hi:=h.rep.idem x hx;have hg:=h.rep.fP x hx
   have:=(h.root (R.getD x 0).toNat (by omega)).2 (by omega)
   omega
  ·rw[rM e];exact e0
theorem UF.init(N:Nat):UF ((List.range N).map (Nat.cast:Nat->Int)) ((List.range N).map (Nat.cast:Nat->Int)) N:=by
 have hg:∀x,x<N->((List.range N).map (Nat.cast:Nat->Int)).getD x 0=x:=fun x hx=>by simp[hx]
 exact⟨⟨by simp,fun x hx=>by rw[hg x hx];omega,fun x hx=>by rw[hg x hx];simpa using hg x hx⟩,by simp,fun x hx=>by rw[hg x hx];omega,fun x hx=>by rw[hg x hx];simpa using hg x hx,
  fun x hx=>by rw[hg x hx],fun x=>x,fun x hx hn=>zzA (hg x hx) hn⟩
end
namespace Sp
def aS(f:Nat->Nat):Nat->Nat->Nat
 |0,x=>x
 |k+1,x=>f (aS f k x)
theorem xP(f:Nat->Nat)(i:Nat):∀j x,aS f (i+j) x=aS f i (aS f j x):=by
 induction i with
 |zero=>intro j x;simp[aS]
 |succ i ih=>intro j x;rw[Nat.succ_add];simp only[aS];rw[ih]
theorem A9(f:Nat->Nat)(k x:Nat):aS f k (f x)=f (aS f k x):=by
 have h:=xP f k 1 x;rw[Nat.add_comm k 1,xP f 1 k x]at h;exact h.symm
structure bJ(N:Nat)(f:Nat->Nat):Prop where
 lt:∀x,x<N->f x<N
 inj:∀x y,x<N->y<N->f x=f y->x=y
section
variable{N:Nat}{f:Nat->Nat}
theorem bJ.bW(h:bJ N f){x:Nat}(hx:x<N):∀k,aS f k x<N
 |0=>hx
 |k+1=>h.lt _ (h.bW hx k)
theorem bJ.sR(h:bJ N f){x y:Nat}(hx:x<N)(hy:y<N):∀k,aS f k x=aS f k y->x=y
 |0,e=>e
 |k+1,e=>h.sR hx hy k (h.inj _ _ (h.bW hx k) (h.bW hy k) e)
theorem XB{l:List Nat}(hn:l.Nodup)(hl:∀x∈l,x<N):l.length<=N:=by
 have:∀(N:Nat) (l:List Nat),l.Nodup->(∀x∈l,x<N)->l.length<=N:=by
  intro N
  induction N with
  |zero=>intro l _ h;cases l with
   |nil=>simp
   |cons a l=>exact zzA (h a (by simp)) (by omega)
  |succ N ih=>
   intro l hn h;have h1:=ih (l.erase N) (hn.erase N) (fun x hx=>by
    have h2:=h x (List.mem_of_mem_erase hx);have h3:x≠N:=fun e=>by subst e;exact(List.Nodup.not_mem_erase hn) hx
    omega)
   have h4:=List.length_erase_le (a:=N) (l:=l);by_cases hm:N∈l
   ·have:=List.length_erase_of_mem hm;omega
   ·rw[List.erase_of_not_mem hm]at h1;omega
 exact this N l hn hl
theorem bJ.back(h:bJ N f){x:Nat}(hx:x<N):∃k,0<k/\aS f k x=x:=by
 apply zW;intro cP;have aJ:∀i j,i<j->aS f i x≠aS f j x:=fun i j lk e=>by
  refine cP ⟨j-i,by omega,?_⟩;have e2:aS f i (aS f (j-i) x)=aS f i x:=by rw[<-xP,show i+(j-i)=j by omega];exact e.symm
  exact h.sR (h.bW hx _) hx i e2
 have hnd:((List.range (N+1)).map fun i=>aS f i x).Nodup:=by
  rw[List.Nodup,List.pairwise_map];refine List.Pairwise.imp_of_mem ?_ (List.pairwise_lt_range);intro i j _ _ lk;exact aJ i j lk
 have:=XB (N:=N) hnd (fun y hy=>by
  obtain⟨i,_,rfl⟩:=zzE.1 hy;exact h.bW hx i)
 simp at this;omega
def SC(f:Nat->Nat)(x y:Nat):Prop:=∃k,aS f k x=y
theorem SC.refl(f:Nat->Nat)(x:Nat):SC f x x:=⟨0,rfl⟩
theorem SC.step(f:Nat->Nat)(x:Nat):SC f x (f x):=⟨1,rfl⟩
theorem SC.trans{x y z:Nat}(h:SC f x y)(k:SC f y z):SC f x z:=by
 obtain⟨i,rfl⟩:=h;obtain⟨j,rfl⟩:=k;exact⟨j+i,xP f j i x⟩
theorem SC.symm(hp:bJ N f){x y:Nat}(hx:x<N)(h:SC f x y):SC f y x:=by
 obtain⟨i,rfl⟩:=h;obtain⟨p,kY,vV⟩:=hp.back hx;have hmul:∀n,aS f (n*p) x=x:=fun n=>by
  induction n with
  |zero=>simp[aS]
  |succ n ih=>rw[Nat.succ_mul,xP,vV];exact ih
 refine⟨(i+1)*p-i,?_⟩;rw[<-xP]
 have:i<=(i+1)*p:=by
  have:=Nat.mul_le_mul_left (i+1) kY;omega
 rw[show (i+1)*p-i+i=(i+1)*p by omega];exact hmul _
structure dG(N:Nat)(E:Nat->Nat->Prop):Prop where
 rfl':∀x,x<N->E x x
 symm:∀x y,x<N->y<N->E x y->E y x
 trans:∀x y z,x<N->y<N->z<N->E x y->E y z->E x z
theorem SC.eqv(hp:bJ N f):dG N (SC f):=⟨fun x _=> .refl f x,fun _ _ hx _ h=>h.symm hp hx,fun _ _ _ _ _ _ h k=>h.trans k⟩
def gO(E:Nat->Nat->Prop)(a b x y:Nat):Prop:=E x y\/(E x a/\E b y)\/(E x b/\E a y)
theorem gO.eqv{E:Nat->Nat->Prop}(h:dG N E){a b:Nat}(ha:a<N)(hb:b<N):dG N (gO E a b):=by
 refine⟨fun x hx=> .inl (h.rfl' x hx),fun x y hx hy e=>?_,fun x y z hx hy hz e e'=>?_⟩
 ·rcases e with e|⟨e1,e2⟩|⟨e1,e2⟩
  ·exact .inl (h.symm _ _ hx hy e)
  ·exact .inr (.inr ⟨h.symm _ _ hb hy e2,h.symm _ _ hx ha e1⟩)
  ·exact .inr (.inl ⟨h.symm _ _ ha hy e2,h.symm _ _ hx hb e1⟩)
 ·rcases e with e|⟨e1,e2⟩|⟨e1,e2⟩<;>rcases e' with e'|⟨e3,e4⟩|⟨e3,e4⟩
  ·exact .inl (h.trans _ _ _ hx hy hz e e')
  ·exact .inr (.inl ⟨h.trans _ _ _ hx hy ha e e3,e4⟩)
  ·exact .inr (.inr ⟨h.trans _ _ _ hx hy hb e e3,e4⟩)
  ·exact .inr (.inl ⟨e1,h.trans _ _ _ hb hy hz e2 e'⟩)
  ·exact .inr (.inl ⟨e1,e4⟩)
  ·exact .inl (h.trans _ _ _ hx ha hz e1 e4)
  ·exact .inr (.inr ⟨e1,h.trans _ _ _ ha hy hz e2 e'⟩)
  ·exact .inl (h.trans _ _ _ hx hb hz e1 e4)
  ·exact .inr (.inr ⟨e1,e4⟩)
def swp(f:Nat->Nat)(a b x:Nat):Nat:=if x=a then f b else if x=b then f a else f x
theorem vc(f:Nat->Nat)(a b:Nat):swp (swp f a b) a b=f:=by
 funext x;unfold swp;by_cases h1:x=a
 ·subst h1;rw[zM rfl];by_cases h2:b=x
  ·subst h2;simp
  ·rw[zL h2,zM rfl]
 ·rw[zL h1];by_cases h2:x=b
  ·subst h2;rw[zM rfl,zM rfl]
  ·rw[zL h2,zL h1,zL h2]
theorem sM(hp:bJ N f){a b:Nat}(ha:a<N)(hb:b<N):bJ N (swp f a b):=by
 refine⟨fun x hx=>?_,fun x y hx hy e=>?_⟩
 ·unfold swp;split
  ·exact hp.lt _ hb
  ·split
   ·exact hp.lt _ ha
   ·exact hp.lt _ hx
 ·unfold swp at e
  split at e<;>split at e<;>(try split at e)<;>(try split at e)<;>(have:=hp.inj _ _ (by assumption) (by assumption) e;omega)
theorem MT{a b x:Nat}(n:Nat)(h:∀j,j<n->aS f j x≠a/\aS f j x≠b):∀j,j<=n->aS (swp f a b) j x=aS f j x
 |0,_=>rfl
 |j+1,hj=>by
  simp only[aS];rw[MT n h j (by omega)]
  have:=h j (by omega)
  unfold swp;rw[zL this.1,zL this.2]
theorem oC{x y:Nat}(h:SC f x y):∃k,aS f k x=y/\ ∀j,j<k->aS f j x≠y:=by
 obtain⟨k,hk⟩:=h
 induction k using Nat.strongRecOn with
 |ind k ih=>
  by_cases hj:∃j,j<k/\aS f j x=y
  ·obtain⟨j,h1,h2⟩:=hj;exact ih j h1 h2
  ·exact⟨k,hk,fun j h1 h2=>hj ⟨j,h1,h2⟩⟩
theorem mX(hp:bJ N f){x:Nat}(hx:x<N):∃k,0<k/\aS f k x=x/\ ∀j,0<j->j<k->aS f j x≠x:=by
 obtain⟨k,h0,hk⟩:=hp.back hx
 induction k using Nat.strongRecOn with
 |ind k ih=>
  by_cases hj:∃j,0<j/\j<k/\aS f j x=x
  ·obtain⟨j,h1,h2,h3⟩:=hj;exact ih j h2 h1 h3
  ·exact⟨k,h0,hk,fun j h1 h2 h3=>hj ⟨j,h1,h2,h3⟩⟩
theorem XA(hp:bJ N f){a b:Nat}(hb:b<N)(cP:¬SC f a b):SC (swp f a b) a b:=by
 obtain⟨k,h0,hk,hf⟩:=mX hp hb;obtain⟨n,rfl⟩:∃n,k=n+1:=⟨k-1,by omega⟩;have hs:∀j,j<n->aS f j (f b)≠a/\aS f j (f b)≠b:=fun j hj=>by
  rw[A9];refine⟨fun e=>cP ?_,hf (j+1) (by omega) (by omega)⟩;exact(show SC f b a from ⟨j+1,e⟩).symm hp hb
 have h1:=MT (f:=f) (a:=a) (b:=b) n hs n (zA _);refine⟨n+1,?_⟩;have e:aS (swp f a b) (n+1) a=aS (swp f a b) n (swp f a b a):=by simp only[aS];rw[A9]
 rw[e,show swp f a b a=f b by unfold swp;rw[zM rfl],h1,A9];exact hk
theorem pT(hp:bJ N f){a b:Nat}(ha:a<N)(hb:b<N)(cP:¬SC f a b):∀x y,x<N->y<N->(SC (swp f a b) x y↔gO (SC f) a b x y):=by
 have mE:=sM hp ha hb;have gL:=XA hp hb cP;have GO:SC (swp f a b) b a:=gL.symm mE ha;have hE:=SC.eqv hp;have hJ:=gO.eqv hE ha hb;have mv:∀x,SC (swp f a b) x (f x):=fun x=>by
  by_cases h1:x=a
  ·subst h1;refine gL.trans ⟨1,?_⟩;show swp f x b b=f x;unfold swp;by_cases h2:b=x
   ·rw[zM h2,h2]
   ·rw[zL h2,zM rfl]
  ·by_cases h2:x=b
   ·subst h2;refine GO.trans ⟨1,?_⟩;show swp f a x a=f x;unfold swp;rw[zM rfl]
   ·refine⟨1,?_⟩;show swp f a b x=f x;unfold swp;rw[zL h1,zL h2]
 have F0:∀k x,SC (swp f a b) x (aS f k x):=fun k x=>by
  induction k with
  |zero=>exact .refl _ _
  |succ k ih=>exact ih.trans (mv _)
 have vL:∀x y,SC f x y->SC (swp f a b) x y:=fun x y ⟨k,hk⟩=>hk▸F0 k x;intro x y hx hy;constructor
 ·rintro⟨k,rfl⟩;clear hy
  induction k with
  |zero=>exact .inl (.refl _ _)
  |succ k ih=>
   have aC:=mE.bW hx k;refine hJ.trans _ _ _ hx aC (mE.lt _ aC) ih ?_;simp only[aS];generalize aS (swp f a b) k x=z;unfold swp
   split
   ·subst z;exact .inr (.inl ⟨.refl _ _,.step _ _⟩)
   ·split
    ·subst z;exact .inr (.inr ⟨.refl _ _,.step _ _⟩)
    ·exact .inl (.step _ _)
 ·rintro (h|⟨h1,h2⟩|⟨h1,h2⟩)
  ·exact vL _ _ h
  ·exact(vL _ _ h1).trans (gL.trans (vL _ _ h2))
  ·exact(vL _ _ h1).trans (GO.trans (vL _ _ h2))
theorem vf(hp:bJ N f){a b:Nat}(ha:a<N)(gL:a≠b)(hs:SC f a b):¬SC (swp f a b) a b:=by
 obtain⟨k,hk,hf⟩:=oC (hs.symm hp ha);have Ay:0<k:=by
  rcases Nat.eq_zero_or_pos k with h|h
  ·subst h;exact zzA hk.symm gL
  ·exact h
 have s5:∀j,0<j->j<=k->aS f j b≠b:=fun j h1 h2 e=>by
  have e2:aS f (k-j) b=a:=by
   have:aS f (k-j) (aS f j b)=a:=by rw[<-xP,show k-j+j=k by omega];exact hk
   rwa [e]at this
  exact hf (k-j) (by omega) e2
 obtain⟨n,rfl⟩:∃n,k=n+1:=⟨k-1,by omega⟩;have sV:∀j,j<n->aS f j (f b)≠a/\aS f j (f b)≠b:=fun j hj=>by
  rw[A9];exact⟨hf (j+1) (by omega),s5 (j+1) (by omega) (by omega)⟩
 have h1:=MT (f:=f) (a:=a) (b:=b) n sV;have Gc:swp f a b a=f b:=by unfold swp;rw[zM rfl]
 have GJ:∀j,j<=n->aS (swp f a b) (j+1) a=aS f (j+1) b:=fun j hj=>by
  have e:aS (swp f a b) (j+1) a=aS (swp f a b) j (swp f a b a):=by simp only[aS];rw[A9]
  rw[e,Gc,h1 j hj,A9];rfl
 have wE:aS (swp f a b) (n+1) a=a:=by rw[GJ n (zA _)];exact hk
 have hmul:∀q,aS (swp f a b) (q*(n+1)) a=a:=fun q=>by
  induction q with
  |zero=>simp[aS]
  |succ q ih=>rw[Nat.succ_mul,xP,wE];exact ih
 rintro⟨i,hi⟩;have e:aS (swp f a b) (i %(n+1)) a=b:=by
  have:aS (swp f a b) (i %(n+1)+(i/(n+1))*(n+1)) a=b:=by
   rw[show i %(n+1)+i/(n+1)*(n+1)=i by rw[Nat.mul_comm];exact Nat.mod_add_div i (n+1)];exact hi
  rwa [xP,hmul]at this
 have aC:=Nat.mod_lt i (show n+1>0 by omega);rcases Nat.eq_zero_or_pos (i %(n+1)) with h|h
 ·rw[h]at e;exact gL e
 ·obtain⟨j,hj⟩:∃j,i %(n+1)=j+1:=⟨i %(n+1)-1,by omega⟩;rw[hj,GJ j (by omega)]at e;exact s5 (j+1) (by omega) (by omega) e
structure Tr(N:Nat)(U:Nat->Prop)(E:Nat->Nat->Prop)(l:List Nat):Prop where
 mem:∀x∈l,x<N/\U x
 nodup:l.Nodup
 apart:∀x∈l,∀y∈l,E x y->x=y
 all:∀x,x<N->U x->∃y∈l,E x y
variable{U:Nat->Prop}{E E':Nat->Nat->Prop}{l l':List Nat}
theorem A4{α β:Type}[DecidableEq β]:∀(l:List α) (k:List β) (g:α->β),l.Nodup->(∀x∈l,g x∈k)->(∀x∈l,∀y∈l,g x=g y->x=y)->l.length<=k.length
 |[],k,g,_,_,_=>by simp
 |a::l,k,g,hn,hm,hi=>by
  have h1:=A4 l (k.erase (g a)) g (List.nodup_cons.1 hn).2 (fun x hx=>by
   have aJ:g x≠g a:=fun e=>by
    have:=hi x (by simp[hx]) a (by simp) e
    subst this;exact(List.nodup_cons.1 hn).1 hx
   exact(List.mem_erase_of_ne aJ).2 (hm x (by simp[hx]))) (fun x hx y hy=>hi x (by simp[hx]) y (by simp[hy]))
  have h2:=List.length_erase_of_mem (hm a (by simp));have h3:0<k.length:=List.length_pos_of_mem (hm a (by simp));simp only[zH];omega
theorem Tr.le(hE:dG N E)(h:Tr N U E l)(h':Tr N U E l'):l.length<=l'.length:=by
 have hc:∀x,∃y,x∈l->(y∈l'/\E x y):=fun x=>by
  by_cases hx:x∈l
  ·obtain⟨y,h1,h2⟩:=h'.all x (h.mem x hx).1 (h.mem x hx).2;exact⟨y,fun _=>⟨h1,h2⟩⟩
  ·exact⟨0,fun h=>zzA h hx⟩
 obtain⟨g,hg⟩:=Classical.axiomOfChoice hc;refine A4 l l' g h.nodup (fun x hx=>(hg x hx).1) fun x hx y hy e=>?_;have h1:=hg x hx;have h2:=hg y hy;rw[e]at h1;exact h.apart x hx y hy (hE.trans _ _ _ (h.mem x hx).1 (h'.mem _ h2.1).1 (h.mem y hy).1 h1.2 (hE.symm _ _ (h.mem y hy).1 (h'.mem _ h2.1).1 h2.2))
theorem Tr.bd(hE:dG N E)(h:Tr N U E l)(h':Tr N U E l'):l.length=l'.length:=Nat.le_antisymm (h.le hE h') (h'.le hE h)
theorem Tr.congr(h:Tr N U E l)(he:∀x y,x<N->y<N->(E x y↔E' x y)):Tr N U E' l:=
 ⟨h.mem,h.nodup,fun x hx y hy e=>h.apart x hx y hy ((he x y (h.mem x hx).1 (h.mem y hy).1).2 e),fun x hx hU=>let ⟨y,h1,h2⟩:=h.all x hx hU;⟨y,h1,(he x y hx (h.mem y h1).1).1 h2⟩⟩
theorem Tr.exists(hE:dG N E)(U:Nat->Prop):∃l,Tr N U E l:=by
 classical
 refine⟨(List.range N).filter fun x=>decide (U x/\ ∀y,y<x->U y->¬E x y),?_,?_,?_,?_⟩
 ·intro x hx;have h:=List.mem_filter.1 hx;exact⟨zK.1 h.1,(of_decide_eq_true h.2).1⟩
 ·exact List.nodup_range.filter _
 ·intro x hx y hy e;have h1:=List.mem_filter.1 hx;have h2:=List.mem_filter.1 hy;have k1:=of_decide_eq_true h1.2;have k2:=of_decide_eq_true h2.2;have l1:=zK.1 h1.1;have l2:=zK.1 h2.1;rcases Nat.lt_trichotomy x y with g|g|g
  ·exact zzA (hE.symm _ _ l1 l2 e) (k2.2 x g k1.1)
  ·exact g
  ·exact zzA e (k1.2 y g k2.1)
 ·intro x hx hU
  have:∀n x,x<n->x<N->U x->∃y,y∈((List.range N).filter fun x=>decide (U x/\ ∀y,y<x->U y->¬E x y))/\E x y:=by
   intro n
   induction n with
   |zero=>intro x h;omega
   |succ n ih=>
    intro x hn hx hU;by_cases hl:∃y,y<x/\U y/\E x y
    ·obtain⟨y,h1,h2,h3⟩:=hl;obtain⟨z,h4,h5⟩:=ih y (by omega) (by omega) h2;have hz:=zK.1 (List.mem_filter.1 h4).1;exact⟨z,h4,hE.trans _ _ _ hx (by omega) hz h3 h5⟩
    ·exact⟨x,List.mem_filter.2 ⟨zK.2 hx,decide_eq_true ⟨hU,fun y h1 h2 h3=>hl ⟨y,h1,h2,h3⟩⟩⟩,hE.rfl' x hx⟩
  exact this (x+1) x (by omega) hx hU
theorem Tr.join(hE:dG N E)(h:Tr N U E l){a b:Nat}(ha:a<N)(hb:b<N)(rB:U a)(GR:U b)(cP:¬E a b)(h':Tr N U (gO E a b) l'):l.length=l'.length+1:=by
 obtain⟨x,hx,tb⟩:=h.all a ha rB;obtain⟨y,hy,BZ⟩:=h.all b hb GR;have lx:=(h.mem x hx).1;have ly:=(h.mem y hy).1;have mu:x≠y:=fun e=>by subst e;exact cP (hE.trans _ _ _ ha lx hb tb (hE.symm _ _ hb lx BZ))
 have key:Tr N U (gO E a b) (l.erase y):=by
  refine⟨fun z hz=>h.mem z (List.mem_of_mem_erase hz),h.nodup.erase y,fun z hz w hw e=>?_,fun z hz hU=>?_⟩
  ·have mz:=List.mem_of_mem_erase hz;have mw:=List.mem_of_mem_erase hw;have lz:=(h.mem z mz).1;have lw:=(h.mem w mw).1;have nz:z≠y:=fun e=>by subst e;exact List.Nodup.not_mem_erase h.nodup hz
   have nw:w≠y:=fun e=>by subst e;exact List.Nodup.not_mem_erase h.nodup hw
   rcases e with e|⟨e1,e2⟩|⟨e1,e2⟩
   ·exact h.apart z mz w mw e
   ·exact zzA (h.apart w mw y hy (hE.trans _ _ _ lw hb ly (hE.symm _ _ hb lw e2) BZ)) nw
   ·exact zzA (h.apart z mz y hy (hE.trans _ _ _ lz hb ly e1 BZ)) nz
  ·obtain⟨w,hw,e⟩:=h.all z hz hU;by_cases We:w=y
   ·subst We;refine⟨x,(List.mem_erase_of_ne mu).2 hx,.inr (.inr ⟨hE.trans _ _ _ hz ly hb e (hE.symm _ _ hb ly BZ),tb⟩)⟩
   ·exact⟨w,(List.mem_erase_of_ne We).2 hw,.inl e⟩
 have e1:=key.bd (gO.eqv hE ha hb) h';have e2:=List.length_erase_of_mem hy;have e3:0<l.length:=List.length_pos_of_mem hy;omega
theorem Tr.mn(hE:dG N E)(h:Tr N U E l){a b:Nat}(hc:∀x y,x<N->y<N->E x y->(U x↔U y))(ha:a<N)(hb:b<N)(rB:¬U a)(GR:¬U b)(h':Tr N U (gO E a b) l'):l.length=l'.length:=by
 have key:Tr N U (gO E a b) l:=by
  refine⟨h.mem,h.nodup,fun z hz w hw e=>?_,fun z hz hU=>?_⟩
  ·rcases e with e|⟨e1,e2⟩|⟨e1,e2⟩
   ·exact h.apart z hz w hw e
   ·exact zzA ((hc _ _ (h.mem z hz).1 ha e1).1 (h.mem z hz).2) rB
   ·exact zzA ((hc _ _ (h.mem z hz).1 hb e1).1 (h.mem z hz).2) GR
  ·obtain⟨w,hw,e⟩:=h.all z hz hU;exact⟨w,hw,.inl e⟩
 exact key.bd (gO.eqv hE ha hb) h'
theorem TA(hE:dG N E){a b:Nat}(ha:a<N)(hb:b<N)(gL:E a b):∀x y,x<N->y<N->(gO E a b x y↔E x y):=fun x y hx hy=>by
 constructor
 ·rintro (e|⟨e1,e2⟩|⟨e1,e2⟩)
  ·exact e
  ·exact hE.trans _ _ _ hx ha hy e1 (hE.trans _ _ _ ha hb hy gL e2)
  ·exact hE.trans _ _ _ hx hb hy e1 (hE.trans _ _ _ hb ha hy (hE.symm _ _ ha hb gL) e2)
 ·exact .inl
end
open Classical
theorem uA{N:Nat}{f g:Nat->Nat}(hf:bJ N f)(h:∀x,x<N->f x=g x){x y:Nat}(hx:x<N):SC f x y↔SC g x y:=by
 have:∀k,aS f k x=aS g k x:=fun k=>by
  induction k with
  |zero=>rfl
  |succ k ih=>simp only[aS];rw[<-ih];exact h _ (hf.bW hx k)
 constructor
 ·rintro⟨k,rfl⟩;exact⟨k,(this k).symm⟩
 ·rintro⟨k,rfl⟩;exact⟨k,this k⟩
theorem bJ.congr{N:Nat}{f g:Nat->Nat}(hf:bJ N f)(h:∀x,x<N->f x=g x):bJ N g:=
 ⟨fun x hx=>by rw[<-h x hx];exact hf.lt x hx,fun x y hx hy e=>hf.inj x y hx hy (by rw[h x hx,h y hy];exact e)⟩
structure bI(N:Nat)(al:Nat->Nat):Prop where
 lt:∀x,x<N->al x<N
 inv:∀x,x<N->al (al x)=x
 ne:∀x,x<N->al x≠x
def Cn(al:Nat->Nat)(k x:Nat):Nat:=if min x (al x)<k then al x else x
def aM(si al:Nat->Nat)(k x:Nat):Nat:=si (Cn al k x)
def KK(si al:Nat->Nat):Nat->Nat->Nat->Prop
 |0=>SC si
 |k+1=>if k<al k then gO (KK si al k) k (al k) else KK si al k
section
variable{N:Nat}{si al:Nat->Nat}{U:Nat->Prop}
theorem S3(ha:bI N al){k:Nat}(hk:k<N)(h:k<al k):∀x,x<N->swp (aM si al k) k (al k) x=aM si al (k+1) x:=fun x hx=>by
 have hi:=ha.inv k hk;unfold swp aM Cn;by_cases h1:x=k
 ·subst h1;rw[zM rfl,hi];rw[zL (by omega),zM (by omega)]
 ·rw[zL h1];by_cases h2:x=al k
  ·subst h2;rw[zM rfl,hi,zL (by omega),zM (by omega)]
  ·rw[zL h2];have h3:al x≠k:=fun e=>h2 (by rw[<-e];exact(ha.inv x hx).symm);by_cases h4:min x (al x)<k
   ·rw[zM h4,zM (by omega)]
   ·rw[zL h4,zL (by omega)]
theorem SZ(ha:bI N al){k:Nat}(hk:k<N)(h:¬k<al k):∀x,x<N->aM si al k x=aM si al (k+1) x:=fun x hx=>by
 unfold aM Cn;have aJ:=ha.ne k hk;by_cases h4:min x (al x)<k
 ·rw[zM h4,zM (by omega)]
 ·rw[zL h4];have h5:¬min x (al x)<k+1:=fun h6=>by
   have h7:min x (al x)=k:=by omega
   by_cases h8:x<=al x
   ·have:x=k:=by omega
    subst this;omega
   ·have h9:al x=k:=by omega
    have:x=al k:=by rw[<-h9];exact(ha.inv x hx).symm
    omega
  rw[zL h5]
theorem aN(hs:bJ N si)(ha:bI N al):∀k,k<=N->bJ N (aM si al k)
 |0,_=>hs.congr fun x _=>by unfold aM Cn;rw[zL (by omega)]
 |k+1,hk=>by
  have ih:=aN hs ha k (by omega);by_cases h:k<al k
  ·exact(sM ih (show k<N by omega) (ha.lt k (by omega))).congr (S3 ha (by omega) h)
  ·exact ih.congr (SZ ha (by omega) h)
theorem Ec(hs:bJ N si)(ha:bI N al):∀k,k<=N->dG N (KK si al k)
 |0,_=>SC.eqv hs
 |k+1,hk=>by
  have ih:=Ec hs ha k (by omega);unfold KK
  split
  ·exact gO.eqv ih (by omega) (ha.lt k (by omega))
  ·exact ih
theorem Eb{f:Nat->Nat}{E:Nat->Nat->Prop}(hf:bJ N f)(hE:dG N E)(h:∀x,x<N->E x (f x)){x y:Nat}(hx:x<N)(hs:SC f x y):E x y:=by
 obtain⟨k,rfl⟩:=hs
 induction k with
 |zero=>exact hE.rfl' x hx
 |succ k ih=>exact hE.trans _ _ _ hx (hf.bW hx k) (hf.lt _ (hf.bW hx k)) ih (h _ (hf.bW hx k))
theorem HO(hs:bJ N si)(ha:bI N al):∀k,k<=N->∀x,x<N->KK si al k x (si x)
 |0,_,x,_=>SC.step _ _
 |k+1,hk,x,hx=>by
  have ih:=HO hs ha k (by omega) x hx;unfold KK;split
  ·exact .inl ih
  ·exact ih
theorem KQ(hs:bJ N si)(ha:bI N al):∀k,k<=N->∀x,x<N->min x (al x)<k->KK si al k x (al x)
 |0,_,x,_,h=>by omega
 |k+1,hk,x,hx,h=>by
  by_cases h1:min x (al x)<k
  ·have ih:=KQ hs ha k (by omega) x hx h1;unfold KK;split
   ·exact .inl ih
   ·exact ih
  ·have hE:=Ec hs ha k (by omega);have br:=ha.lt x hx;have hi:=ha.inv x hx;have aJ:=ha.ne x hx;have h2:min x (al x)=k:=by omega
   unfold KK;by_cases h3:x<al x
   ·have:x=k:=by omega
    subst this;rw[zM h3];exact .inr (.inl ⟨hE.rfl' _ hx,hE.rfl' _ br⟩)
   ·have h4:al x=k:=by omega
    have h5:al k=x:=by rw[<-h4];exact hi
    rw[zM (by omega)];refine .inr (.inr ⟨?_,?_⟩)
    ·rw[h5];exact hE.rfl' _ hx
    ·rw[h4];exact hE.rfl' _ (by omega)
theorem Mr(hs:bJ N si)(ha:bI N al){R:Nat->Nat->Prop}(hR:dG N R)(h1:∀x,x<N->R x (si x))(h2:∀x,x<N->R x (al x)):∀k,k<=N->∀x y,x<N->y<N->KK si al k x y->R x y
 |0,_,x,y,hx,_,h=>Eb hs hR h1 hx h
 |k+1,hk,x,y,hx,hy,h=>by
  have ih:=Mr hs ha hR h1 h2 k (by omega);have jx:k<N:=by omega
  have br:=ha.lt k jx;unfold KK at h
  split at h
  ·rcases h with h|⟨e1,e2⟩|⟨e1,e2⟩
   ·exact ih x y hx hy h
   ·exact hR.trans _ _ _ hx jx hy (ih _ _ hx jx e1) (hR.trans _ _ _ jx br hy (h2 k jx) (ih _ _ br hy e2))
   ·exact hR.trans _ _ _ hx br hy (ih _ _ hx br e1) (hR.trans _ _ _ br jx hy (hR.symm _ _ jx br (h2 k jx)) (ih _ _ jx hy e2))
  ·exact ih x y hx hy h
theorem H9(hs:bJ N si)(ha:bI N al){k:Nat}(hk:k<=N){x y:Nat}(hx:x<N)(h:SC (aM si al k) x y):KK si al k x y:=by
 have hE:=Ec hs ha k hk;refine Eb (aN hs ha k hk) hE (fun x hx=>?_) hx h;have br:=ha.lt x hx;unfold aM Cn
 split
 ·exact hE.trans _ _ _ hx br (hs.lt _ br) (KQ hs ha k hk x hx (by assumption)) (HO hs ha k hk _ br)
 ·exact HO hs ha k hk x hx
noncomputable def eU (al:Nat->Nat) (U:Nat->Prop) (k:Nat):Nat:=(List.range k).countP fun h=>decide (U h/\h<al h)
theorem ID(al:Nat->Nat)(U:Nat->Prop)(k:Nat):eU al U (k+1)=eU al U k+if U k/\k<al k then 1 else 0:=by
 unfold eU;rw[List.range_succ,List.countP_append];by_cases h:U k/\k<al k
 ·simp[h]
 ·simp[h]
theorem Cq(hs:bJ N si)(ha:bI N al)(h1:∀x,x<N->(U x↔U (si x)))(h2:∀x,x<N->(U x↔U (al x))){k:Nat}(hk:k<=N){x y:Nat}(hx:x<N)(hy:y<N)(h:KK si al k x y):U x↔U y:=
 Mr (R:=fun x y=>U x↔U y) hs ha ⟨fun _ _=>Iff.rfl,fun _ _ _ _ h=>h.symm,fun _ _ _ _ _ _ h k=>h.trans k⟩ h1 h2 k hk x y hx hy h
theorem U5(hs:bJ N si)(ha:bI N al)(h1:∀x,x<N->(U x↔U (si x)))(h2:∀x,x<N->(U x↔U (al x))):∀k,k<=N->∀lV lF lK,Tr N U (SC si) lV->Tr N U (SC (aM si al k)) lF->Tr N U (KK si al k) lK->
  lV.length+lF.length<=2*lK.length+eU al U k
 |0,_,lV,lF,lK,hV,hF,hK=>by
  have e1:=hV.bd (SC.eqv hs) hK;have e2:=hV.bd (SC.eqv hs) (hF.congr (E':=SC si) (fun x y hx _=>(uA hs (g:=aM si al 0) (fun x _=>by unfold aM Cn;rw[zL (by omega)]) hx).symm));omega
 |k+1,hk,lV,lF,lK,hV,hF,hK=>by
  have jx:k<N:=by omega
  have br:=ha.lt k jx;have hE:=Ec hs ha k (by omega);have hP:=aN hs ha k (by omega);have Km:=SC.eqv hP;obtain⟨FH,yR⟩:=Tr.exists Km U;obtain⟨lK0,GW⟩:=Tr.exists hE U;have ih:=U5 hs ha h1 h2 k (by omega) lV FH lK0 hV yR GW;rw[ID];by_cases aC:k<al k
  ·have bT:=S3 (si:=si) ha jx aC;have oj:=sM hP jx br;have p8:Tr N U (SC (swp (aM si al k) k (al k))) lF:=hF.congr fun x y hx _=>(uA oj bT hx).symm;have GV:Tr N U (gO (KK si al k) k (al k)) lK:=by unfold KK at hK;rw[zM aC]at hK;exact hK
   by_cases hU:U k
   ·have rB:=(h2 k jx).1 hU;rw[zM ⟨hU,aC⟩];have PT:lF.length<=FH.length+1/\(¬SC (aM si al k) k (al k)->FH.length=lF.length+1):=by
     by_cases iF:SC (aM si al k) k (al k)
     ·refine⟨?_,fun h=>zzA iF h⟩;have cP:=vf hP jx (by omega) iF;have hj:=pT oj jx br cP;rw[vc]at hj
      have:=p8.join (SC.eqv oj) jx br hU rB cP (yR.congr hj)
      omega
     ·have:=yR.join Km jx br hU rB iF (p8.congr (pT hP jx br iF))
      exact⟨by omega,fun _=>this⟩
    by_cases hke:KK si al k k (al k)
    ·have:=GW.bd hE (GV.congr (TA hE jx br hke))
     omega
    ·have e1:=GW.join hE jx br hU rB hke GV;have e2:=PT.2 (fun iF=>hke (H9 hs ha (by omega) jx iF));omega
   ·have rB:¬U (al k):=fun h=>hU ((h2 k jx).2 h);rw[zL (fun h=>hU h.1)];have hcK:∀x y,x<N->y<N->KK si al k x y->(U x↔U y):=fun x y hx hy h=>Cq hs ha h1 h2 (by omega) hx hy h;have e1:=GW.mn hE hcK jx br hU rB GV;have e2:FH.length=lF.length:=by
     by_cases iF:SC (aM si al k) k (al k)
     ·have cP:=vf hP jx (by omega) iF;have hj:=pT oj jx br cP;rw[vc]at hj;refine(p8.mn (SC.eqv oj) (fun x y hx hy h=>?_) jx br hU rB (yR.congr hj)).symm;have h3:SC (aM si al (k+1)) x y:=(uA oj bT hx).1 h;exact Cq hs ha h1 h2 hk hx hy (H9 hs ha hk hx h3)
     ·exact yR.mn Km (fun x y hx hy h=>Cq hs ha h1 h2 (by omega) hx hy (H9 hs ha (by omega) hx h)) jx br hU rB (p8.congr (pT hP jx br iF))
    omega
  ·rw[zL (fun h=>aC h.2)];have GV:Tr N U (KK si al k) lK:=by unfold KK at hK;rw[zL aC]at hK;exact hK
   have e1:=GW.bd hE GV;have e2:=yR.bd Km (hF.congr fun x y hx _=>(uA hP (SZ ha jx aC) hx).symm);omega
end
open Classical
section
variable{N:Nat}{si al:Nat->Nat}{U W:Nat->Prop}{E E':Nat->Nat->Prop}{l l':List Nat}
theorem Tr.tM(hE:dG N E)(h:∀x,x<N->U x->∃y,y<N/\U y/\W y/\E x y):∃l,Tr N U E l/\ ∀x∈l,W x:=by
 obtain⟨l,hl⟩:=Tr.exists hE (fun x=>U x/\W x);refine⟨l,⟨fun x hx=>⟨(hl.mem x hx).1,(hl.mem x hx).2.1⟩,hl.nodup,hl.apart,fun x hx hU=>?_⟩,fun x hx=>(hl.mem x hx).2.2⟩;obtain⟨y,h1,h2,h3,h4⟩:=h x hx hU;obtain⟨z,h5,h6⟩:=hl.all y h1 ⟨h2,h3⟩;exact⟨z,h5,hE.trans _ _ _ hx h1 (hl.mem z h5).1 h4 h6⟩
theorem Tr.aZ(h:Tr N U E l)(hU:∀x,x<N->(U x↔W x))(he:∀x y,x<N->y<N->U x->U y->(E x y↔E' x y)):Tr N W E' l:=
 ⟨fun x hx=>⟨(h.mem x hx).1,(hU x (h.mem x hx).1).1 (h.mem x hx).2⟩,h.nodup,fun x hx y hy e=>h.apart x hx y hy ((he x y (h.mem x hx).1 (h.mem y hy).1 (h.mem x hx).2 (h.mem y hy).2).2 e),fun x hx hW=>by
  have WX:=(hU x hx).2 hW;obtain⟨y,h1,h2⟩:=h.all x hx WX;exact⟨y,h1,(he x y hx (h.mem y h1).1 WX (h.mem y h1).2).1 h2⟩⟩
theorem Tr.append(h:Tr N U E l)(h':Tr N W E l')(cP:∀x y,x<N->y<N->U x->W y->¬E x y/\ ¬E y x)(aJ:∀x,x<N->U x->¬W x):Tr N (fun x=>U x\/W x) E (l++l'):=by
 refine⟨fun x hx=>?_,?_,fun x hx y hy e=>?_,fun x hx hU=>?_⟩
 ·rcases List.mem_append.1 hx with g|g
  ·exact⟨(h.mem x g).1,.inl (h.mem x g).2⟩
  ·exact⟨(h'.mem x g).1,.inr (h'.mem x g).2⟩
 ·refine List.nodup_append.2 ⟨h.nodup,h'.nodup,fun x hx y hy e=>?_⟩;subst e;exact aJ x (h.mem x hx).1 (h.mem x hx).2 (h'.mem x hy).2
 ·rcases List.mem_append.1 hx with g|g<;>rcases List.mem_append.1 hy with k|k
  ·exact h.apart x g y k e
  ·exact zzA e (cP x y (h.mem x g).1 (h'.mem y k).1 (h.mem x g).2 (h'.mem y k).2).1
  ·exact zzA e (cP y x (h.mem y k).1 (h'.mem x g).1 (h.mem y k).2 (h'.mem x g).2).2
  ·exact h'.apart x g y k e
 ·rcases hU with g|g
  ·obtain⟨y,h1,h2⟩:=h.all x hx g;exact⟨y,List.mem_append_left _ h1,h2⟩
  ·obtain⟨y,h1,h2⟩:=h'.all x hx g;exact⟨y,List.mem_append_right _ h1,h2⟩
theorem xR{al':Nat->Nat}{k:Nat}(h:∀x,x<k->((U x/\x<al x)↔(W x/\x<al' x))):eU al U k=eU al' W k:=by
 unfold eU;refine List.countP_congr fun x hx=>?_;simp only[decide_eq_true_eq];exact h x (zK.1 hx)
theorem Hm{k:Nat}(h:∀x,x<k->U x->¬W x):eU al (fun x=>U x\/W x) k=eU al U k+eU al W k:=by
 induction k with
 |zero=>simp[eU]
 |succ k ih=>
  rw[ID,ID,ID,ih (fun x hx=>h x (by omega))]
  have:=h k (by omega)
  by_cases h1:U k<;>by_cases h2:W k<;>by_cases h3:k<al k<;>simp[h1,h2,h3]<;>first|omega|exact zzA h2 (this h1)
end
structure cb(N:Nat)(si al:Nat->Nat):Prop where
 perm:bJ N si
 aW:bI N al
 eq:∀r,r<N->∀lV lF,Tr N (KK si al N r) (SC si) lV->Tr N (KK si al N r) (SC (aM si al N)) lF->lV.length+lF.length=2+eU al (KK si al N r) N
section
variable{N:Nat}{si al:Nat->Nat}
theorem aX(ha:bI N al){x:Nat}(hx:x<N):aM si al N x=si (al x):=by
 unfold aM Cn;rw[zM (by omega)]
theorem bH(hs:bJ N si)(ha:bI N al):dG N (KK si al N):=Ec hs ha N (zA _)
theorem cw(hs:bJ N si)(ha:bI N al){x:Nat}(hx:x<N):KK si al N x (si x):=HO hs ha N (zA _) x hx
theorem bS(hs:bJ N si)(ha:bI N al){x:Nat}(hx:x<N):KK si al N x (al x):=KQ hs ha N (zA _) x hx (by omega)
theorem nU(hs:bJ N si)(ha:bI N al){x y:Nat}(hx:x<N)(h:SC si x y):KK si al N x y:=Eb hs (bH hs ha) (fun _ hx=>cw hs ha hx) hx h
theorem nV(hs:bJ N si)(ha:bI N al){x y:Nat}(hx:x<N)(h:SC (aM si al N) x y):KK si al N x y:=H9 hs ha (zA _) hx h
theorem bb(hs:bJ N si)(ha:bI N al){R:Nat->Nat->Prop}(hR:dG N R)(h1:∀x,x<N->R x (si x))(h2:∀x,x<N->R x (al x)){x y:Nat}(hx:x<N)(hy:y<N)(h:KK si al N x y):R x y:=Mr hs ha hR h1 h2 N (zA _) x y hx hy h
theorem dX(hs:bJ N si)(ha:bI N al){r:Nat}(hr:r<N):(∀x,x<N->(KK si al N r x↔KK si al N r (si x)))/\(∀x,x<N->(KK si al N r x↔KK si al N r (al x))):=by
 have hE:=bH hs ha;refine⟨fun x hx=>?_,fun x hx=>?_⟩
 ·have h1:=cw hs ha hx;have h2:=hs.lt x hx;exact⟨fun h=>hE.trans _ _ _ hr hx h2 h h1,fun h=>hE.trans _ _ _ hr h2 hx h (hE.symm _ _ hx h2 h1)⟩
 ·have h1:=bS hs ha hx;have h2:=ha.lt x hx;exact⟨fun h=>hE.trans _ _ _ hr hx h2 h h1,fun h=>hE.trans _ _ _ hr h2 hx h (hE.symm _ _ hx h2 h1)⟩
theorem CH(hs:bJ N si)(ha:bI N al){r:Nat}(hr:r<N){lV lF:List Nat}(hV:Tr N (KK si al N r) (SC si) lV)(hF:Tr N (KK si al N r) (SC (aM si al N)) lF):lV.length+lF.length<=2+eU al (KK si al N r) N:=by
 have hE:=bH hs ha;have hK:Tr N (KK si al N r) (KK si al N) [r]:=by
  refine⟨fun x hx=>?_,by simp,fun x hx y hy _=>?_,fun x hx h=>⟨r,by simp,hE.symm _ _ hr hx h⟩⟩
  ·simp at hx;subst hx;exact⟨hr,hE.rfl' _ hr⟩
  ·simp at hx hy;rw[hx,hy]
 have:=U5 hs ha (dX hs ha hr).1 (dX hs ha hr).2 N (zA _) lV lF [r] hV hF hK
 simpa using this
theorem cb.split(h:cb N si al){p q:Nat}(hp:p<N)(hq:q<N)(dS:p≠q)(iF:SC si p q):cb N (swp si p q) al:=by
 have hs:=h.perm;have ha:=h.aW;have a7:=sM hs hp hq;have hE:=bH hs ha;have bX:=bH a7 ha;have F3:=vf hs hp dS iF;have F4:=pT a7 hp hq F3;rw[vc]at F4;have iT:=ha.lt p hp;have oA:=ha.lt q hq;have dL:=aN hs ha N (zA _);have eO:=aN a7 ha N (zA _);have sk:∀x,x<N->swp (aM si al N) (al p) (al q) x=aM (swp si p q) al N x:=fun x hx=>by
  rw[aX ha hx];unfold swp;have i1:=ha.inv x hx;by_cases h1:x=al p
  ·subst h1;rw[zM rfl,ha.inv p hp,zM rfl,aX ha oA,ha.inv q hq]
  ·rw[zL h1];have n1:al x≠p:=fun e=>h1 (by rw[<-e,i1]);by_cases h2:x=al q
   ·subst h2;rw[zM rfl,ha.inv q hq,zL (Ne.symm dS),zM rfl,aX ha iT,ha.inv p hp]
   ·rw[zL h2];have n2:al x≠q:=fun e=>h2 (by rw[<-e,i1]);rw[zL n1,zL n2,aX ha hx]
 have Kj:al p≠al q:=fun e=>dS (by rw[<-ha.inv p hp,<-ha.inv q hq,e]);have lr:KK si al N p q:=nU hs ha hp iF;have yy:∀x,x<N->(x≠p/\x≠q/\swp si p q x=si x)\/(x=p/\swp si p q x=si q)\/(x=q/\swp si p q x=si p):=fun x _=>by
  unfold swp;by_cases h1:x=p
  ·exact .inr (.inl ⟨h1,by rw[zM h1]⟩)
  ·by_cases h2:x=q
   ·exact .inr (.inr ⟨h2,by rw[zL h1,zM h2]⟩)
   ·exact .inl ⟨h1,h2,by rw[zL h1,zL h2]⟩
 have cF:∀x y,x<N->y<N->KK (swp si p q) al N x y->KK si al N x y:=fun x y hx hy hk=>by
  refine bb a7 ha hE (fun x hx=>?_) (fun x hx=>bS hs ha hx) hx hy hk;rcases yy x hx with ⟨_,_,e⟩|⟨rfl,e⟩|⟨rfl,e⟩
  ·rw[e];exact cw hs ha hx
  ·rw[e];exact hE.trans _ _ _ hx hq (hs.lt _ hq) lr (cw hs ha hq)
  ·rw[e];exact hE.trans _ _ _ hx hp (hs.lt _ hp) (hE.symm _ _ hp hx lr) (cw hs ha hp)
 have DR:∀x y,x<N->y<N->(KK si al N x y↔gO (KK (swp si p q) al N) p q x y):=fun x y hx hy=>by
  constructor
  ·intro hk;refine bb hs ha (gO.eqv bX hp hq) (fun x hx=>?_) (fun x hx=> .inl (bS a7 ha hx)) hx hy hk;rcases yy x hx with ⟨_,_,e⟩|⟨rfl,_⟩|⟨rfl,_⟩
   ·rw[<-e];exact .inl (cw a7 ha hx)
   ·refine .inr (.inl ⟨bX.rfl' _ hx,?_⟩)
    have:=cw a7 ha hq
    rwa [show swp si x q q=si x by unfold swp;rw[zL (Ne.symm dS),zM rfl]]at this
   ·refine .inr (.inr ⟨bX.rfl' _ hx,?_⟩)
    have:=cw a7 ha hp
    rwa [show swp si p x p=si x by unfold swp;rw[zM rfl]]at this
  ·rintro (e|⟨e1,e2⟩|⟨e1,e2⟩)
   ·exact cF x y hx hy e
   ·exact hE.trans _ _ _ hx hp hy (cF _ _ hx hp e1) (hE.trans _ _ _ hp hq hy lr (cF _ _ hq hy e2))
   ·exact hE.trans _ _ _ hx hq hy (cF _ _ hx hq e1) (hE.trans _ _ _ hq hp hy (hE.symm _ _ hp hq lr) (cF _ _ hp hy e2))
 obtain⟨lV,hV⟩:=Tr.exists (SC.eqv hs) (KK si al N p);obtain⟨lF,hF⟩:=Tr.exists (SC.eqv dL) (KK si al N p);have heq:=h.eq p hp lV lF hV hF;obtain⟨FG,wH⟩:=Tr.exists (SC.eqv a7) (KK si al N p);obtain⟨Br,wK⟩:=Tr.exists (SC.eqv eO) (KK si al N p);have PI:KK si al N p p:=hE.rfl' _ hp;have hv1:FG.length=lV.length+1:=wH.join (SC.eqv a7) hp hq PI lr F3 (hV.congr F4)
 have wJ:KK si al N p (al p):=bS hs ha hp;have wI:KK si al N p (al q):=hE.trans _ _ _ hp hq oA lr (bS hs ha hq);have kW:=sM dL iT oA;have p8:Tr N (KK si al N p) (SC (swp (aM si al N) (al p) (al q))) Br:=wK.congr fun x y hx _=>(uA kW sk hx).symm;have Pt:¬SC (aM (swp si p q) al N) (al p) (al q)->Br.length=lF.length+1:=fun cP=>by
  have wa:¬SC (swp (aM si al N) (al p) (al q)) (al p) (al q):=fun e=>cP ((uA kW sk iT).1 e);have hj:=pT kW iT oA wa;rw[vc]at hj;exact p8.join (SC.eqv kW) iT oA wJ wI wa (hF.congr hj)
 have hfle:lF.length<=Br.length+1:=by
  by_cases vP:SC (aM si al N) (al p) (al q)
  ·have cP:=vf dL iT Kj vP;have hj:=pT kW iT oA cP;rw[vc]at hj
   have:=p8.join (SC.eqv kW) iT oA wJ wI cP (hF.congr hj)
   omega
  ·have:=hF.join (SC.eqv dL) iT oA wJ wI vP (p8.congr (pT dL iT oA vP))
   omega
 refine⟨a7,ha,fun r hr kV kF kg jd=>?_⟩;by_cases hrp:KK si al N p r
 ·by_cases dK:KK (swp si p q) al N p q
  ·--nothing is parted
   have hKK:∀x y,x<N->y<N->(KK si al N x y↔KK (swp si p q) al N x y):=fun x y hx hy=>(DR x y hx hy).trans (TA bX hp hq dK x y hx hy);have cW:∀x,x<N->(KK si al N p x↔KK (swp si p q) al N r x):=fun x hx=>by
    rw[<-hKK r x hr hx];exact⟨fun e=>hE.trans _ _ _ hr hp hx (hE.symm _ _ hp hr hrp) e,fun e=>hE.trans _ _ _ hp hr hx hrp e⟩
   have e1:=(wH.aZ cW (E':=SC (swp si p q)) (fun _ _ _ _ _ _=>Iff.rfl)).bd (SC.eqv a7) kg;have e2:=(wK.aZ cW (E':=SC (aM (swp si p q) al N)) (fun _ _ _ _ _ _=>Iff.rfl)).bd (SC.eqv eO) jd;have e3:eU al (KK si al N p) N=eU al (KK (swp si p q) al N r) N:=xR fun x hx=>by rw[cW x hx]
   have e4:=CH a7 ha hr kg jd;omega
  ·--the class is parted
   have O8:¬SC (aM (swp si p q) al N) (al p) (al q):=fun e=>dK (by
    have h1:=nV a7 ha iT e;exact bX.trans _ _ _ hp iT hq (bS a7 ha hp) (bX.trans _ _ _ iT oA hq h1 (bX.symm _ _ hq oA (bS a7 ha hq))))
   have uP:=Pt O8;obtain⟨pV,OU⟩:=Tr.exists (SC.eqv a7) (KK (swp si p q) al N p);obtain⟨pF,OV⟩:=Tr.exists (SC.eqv eO) (KK (swp si p q) al N p);obtain⟨qV,OQ⟩:=Tr.exists (SC.eqv a7) (KK (swp si p q) al N q);obtain⟨qF,OR⟩:=Tr.exists (SC.eqv eO) (KK (swp si p q) al N q)
   have jg:∀x,x<N->KK (swp si p q) al N p x->¬KK (swp si p q) al N q x:=fun x hx e1 e2=>dK (bX.trans _ _ _ hp hx hq e1 (bX.symm _ _ hq hx e2));have mP:∀x,x<N->((KK (swp si p q) al N p x\/KK (swp si p q) al N q x)↔KK si al N p x):=fun x hx=>by
    rw[DR p x hp hx];constructor
    ·rintro (e|e)
     ·exact .inl e
     ·exact .inr (.inl ⟨bX.rfl' _ hp,e⟩)
    ·rintro (e|⟨_,e⟩|⟨e,_⟩)
     ·exact .inl e
     ·exact .inr e
     ·exact zzA e dK
   have BL:∀x y,x<N->y<N->KK (swp si p q) al N p x->KK (swp si p q) al N q y->¬SC (swp si p q) x y/\ ¬SC (swp si p q) y x:=fun x y hx hy e1 e2=>
    ⟨fun e=>jg y hy (bX.trans _ _ _ hp hx hy e1 (nU a7 ha hx e)) e2,fun e=>jg x hx e1 (bX.trans _ _ _ hq hy hx e2 (nU a7 ha hy e))⟩
   have BM:∀x y,x<N->y<N->KK (swp si p q) al N p x->KK (swp si p q) al N q y->¬SC (aM (swp si p q) al N) x y/\ ¬SC (aM (swp si p q) al N) y x:=fun x y hx hy e1 e2=>
    ⟨fun e=>jg y hy (bX.trans _ _ _ hp hx hy e1 (nV a7 ha hx e)) e2,fun e=>jg x hx e1 (bX.trans _ _ _ hq hy hx e2 (nV a7 ha hy e))⟩
   have eV:=((OU.append OQ BL jg).aZ mP (E':=SC (swp si p q)) (fun _ _ _ _ _ _=>Iff.rfl)).bd (SC.eqv a7) wH;have eF:=((OV.append OR BM jg).aZ mP (E':=SC (aM (swp si p q) al N)) (fun _ _ _ _ _ _=>Iff.rfl)).bd (SC.eqv eO) wK;rw[zG]at eV eF;have eE:eU al (KK si al N p) N=eU al (KK (swp si p q) al N p) N+eU al (KK (swp si p q) al N q) N:=by
    rw[<-Hm (fun x hx e=>jg x hx e)];exact xR fun x hx=>by rw[mP x hx]
   have ip:=CH a7 ha hp OU OV;have iq:=CH a7 ha hq OQ OR;have ik:=(mP r hr).2 hrp;rcases ik with ik|ik
   ·have cW:∀x,x<N->(KK (swp si p q) al N p x↔KK (swp si p q) al N r x):=fun x hx=>⟨fun e=>bX.trans _ _ _ hr hp hx (bX.symm _ _ hp hr ik) e,fun e=>bX.trans _ _ _ hp hr hx ik e⟩;have e1:=(OU.aZ cW (E':=SC (swp si p q)) (fun _ _ _ _ _ _=>Iff.rfl)).bd (SC.eqv a7) kg;have e2:=(OV.aZ cW (E':=SC (aM (swp si p q) al N)) (fun _ _ _ _ _ _=>Iff.rfl)).bd (SC.eqv eO) jd
    have e3:eU al (KK (swp si p q) al N p) N=eU al (KK (swp si p q) al N r) N:=xR fun x hx=>by rw[cW x hx]
    omega
   ·have cW:∀x,x<N->(KK (swp si p q) al N q x↔KK (swp si p q) al N r x):=fun x hx=>⟨fun e=>bX.trans _ _ _ hr hq hx (bX.symm _ _ hq hr ik) e,fun e=>bX.trans _ _ _ hq hr hx ik e⟩;have e1:=(OQ.aZ cW (E':=SC (swp si p q)) (fun _ _ _ _ _ _=>Iff.rfl)).bd (SC.eqv a7) kg;have e2:=(OR.aZ cW (E':=SC (aM (swp si p q) al N)) (fun _ _ _ _ _ _=>Iff.rfl)).bd (SC.eqv eO) jd
    have e3:eU al (KK (swp si p q) al N q) N=eU al (KK (swp si p q) al N r) N:=xR fun x hx=>by rw[cW x hx]
    omega
 ·--another component:as it was
  have J7:∀x,x<N->KK si al N r x->x≠p/\x≠q:=fun x hx e=>⟨fun g=>by subst g;exact hrp (hE.symm _ _ hr hx e),fun g=>by
   subst g;exact hrp (hE.trans _ _ _ hp hx hr lr (hE.symm _ _ hr hx e))⟩
  have cW:∀x,x<N->(KK (swp si p q) al N r x↔KK si al N r x):=fun x hx=>by
   refine⟨cF r x hr hx,fun e=>?_⟩;rcases (DR r x hr hx).1 e with e|⟨e1,_⟩|⟨e1,_⟩
   ·exact e
   ·exact zzA rfl (J7 p hp (cF _ _ hr hp e1)).1
   ·exact zzA rfl (J7 q hq (cF _ _ hr hq e1)).2
  have GM:∀{f:Nat->Nat} (_:bJ N f) {g:Nat->Nat} (_:∀x,x<N->KK si al N r x->f x=g x/\KK si al N r (f x)) (x y:Nat),x<N->KK si al N r x->(SC f x y↔SC g x y):=fun {f} hf {g} Pv x y hx hU=>by
   have hi:∀k,KK si al N r (aS f k x)/\aS f k x=aS g k x:=fun k=>by
    induction k with
    |zero=>exact⟨hU,rfl⟩
    |succ k ih=>
     have:=Pv _ (hf.bW hx k) ih.1
     exact⟨this.2,by simp only[aS];rw[<-ih.2];exact this.1⟩
   constructor
   ·rintro⟨k,rfl⟩;exact⟨k,(hi k).2.symm⟩
   ·rintro⟨k,rfl⟩;exact⟨k,(hi k).2⟩
  have OI:=GM a7 (g:=si) (fun x hx e=>by
   have hn:=J7 x hx e;rcases yy x hx with ⟨_,_,g⟩|⟨g,_⟩|⟨g,_⟩
   ·rw[g];exact⟨rfl,((dX hs ha hr).1 x hx).1 e⟩
   ·exact zzA g hn.1
   ·exact zzA g hn.2)
  have vP:=GM eO (g:=aM si al N) (fun x hx e=>by
   have tb:=ha.lt x hx;have e1:=((dX hs ha hr).2 x hx).1 e;have hn:=J7 (al x) tb e1;rw[aX ha hx,aX ha hx];rcases yy (al x) tb with ⟨_,_,g⟩|⟨g,_⟩|⟨g,_⟩
   ·rw[g];exact⟨rfl,((dX hs ha hr).1 _ tb).1 e1⟩
   ·exact zzA g hn.1
   ·exact zzA g hn.2)
  have t1:Tr N (KK si al N r) (SC si) kV:=kg.aZ cW (fun x y hx _ hU _=>OI x y hx ((cW x hx).1 hU));have t2:Tr N (KK si al N r) (SC (aM si al N)) kF:=jd.aZ cW (fun x y hx _ hU _=>vP x y hx ((cW x hx).1 hU))
  have:=h.eq r hr kV kF t1 t2
  rw[this];congr 1;exact xR fun x hx=>by rw[cW x hx]
end
open Classical
noncomputable def cU (U:Nat->Prop) (N:Nat):Nat:=(List.range N).countP fun h=>decide (U h)
section
variable{N:Nat}{si al:Nat->Nat}{U W:Nat->Prop}
theorem tE(U:Nat->Prop)(k:Nat):cU U (k+1)=cU U k+if U k then 1 else 0:=by
 unfold cU;rw[List.range_succ,List.countP_append];by_cases h:U k<;>simp[h]
theorem EK{k:Nat}(h:∀x,x<k->(U x↔W x)):cU U k=cU W k:=by
 unfold cU;refine List.countP_congr fun x hx=>?_;simp only[decide_eq_true_eq];exact h x (zK.1 hx)
theorem HN{k:Nat}(h:∀x,x<k->U x->¬W x):cU (fun x=>U x\/W x) k=cU U k+cU W k:=by
 induction k with
 |zero=>simp[cU]
 |succ k ih=>
  rw[tE,tE,tE,ih (fun x hx=>h x (by omega))]
  have:=h k (by omega)
  by_cases h1:U k<;>by_cases h2:W k<;>simp[h1,h2]<;>first|omega|exact zzA h2 (this h1)
theorem Ea{u:Nat}:∀k,cU (fun x=>x=u) k=if u<k then 1 else 0
 |0=>by simp[cU]
 |k+1=>by
  rw[tE,Ea k];by_cases h1:u<k
  ·rw[zM h1,zL (by omega),zM (by omega)]
  ·rw[zL h1];by_cases h2:k=u
   ·rw[zM h2,zM (by omega)]
   ·rw[zL h2,zL (by omega)]
theorem tD(ha:bI N al)(hU:∀x,x<N->(U x↔U (al x))):2*eU al U N=cU U N:=by
 have e1:eU al U N=((List.range N).filter fun h=>decide (U h/\h<al h)).length:=by unfold eU;rw[List.countP_eq_length_filter]
 have e2:cU U N=eU al U N+((List.range N).filter fun h=>decide (U h/\ ¬h<al h)).length:=by
  rw[<-List.countP_eq_length_filter];unfold cU eU;generalize List.range N=l
  induction l with
  |nil=>simp
  |cons x l ih=>
   simp only[List.countP_cons];rw[ih];by_cases h1:U x<;>by_cases h2:x<al x<;>simp[h1,h2]<;>omega
 have m1:∀x,x∈((List.range N).filter fun h=>decide (U h/\h<al h))↔x<N/\U x/\x<al x:=fun x=>by simp[List.mem_filter]
 have m2:∀x,x∈((List.range N).filter fun h=>decide (U h/\ ¬h<al h))↔x<N/\U x/\ ¬x<al x:=fun x=>by simp[List.mem_filter]
 have i1:=A4 ((List.range N).filter fun h=>decide (U h/\h<al h)) ((List.range N).filter fun h=>decide (U h/\ ¬h<al h)) al (List.nodup_range.filter _) (fun x hx=>by
  obtain⟨h1,h2,h3⟩:=(m1 x).1 hx;exact(m2 _).2 ⟨ha.lt x h1,(hU x h1).1 h2,by rw[ha.inv x h1];omega⟩) (fun x hx y hy e=>by
  have h1:=((m1 x).1 hx).1;have h2:=((m1 y).1 hy).1;rw[<-ha.inv x h1,<-ha.inv y h2,e])
 have i2:=A4 ((List.range N).filter fun h=>decide (U h/\ ¬h<al h)) ((List.range N).filter fun h=>decide (U h/\h<al h)) al (List.nodup_range.filter _) (fun x hx=>by
  obtain⟨h1,h2,h3⟩:=(m2 x).1 hx
  have:=ha.ne x h1
  exact(m1 _).2 ⟨ha.lt x h1,(hU x h1).1 h2,by rw[ha.inv x h1];omega⟩) (fun x hx y hy e=>by
  have h1:=((m2 x).1 hx).1;have h2:=((m2 y).1 hy).1;rw[<-ha.inv x h1,<-ha.inv y h2,e])
 omega
theorem LL{f:Nat->Nat}{x:Nat}(h:f x=x):∀k,aS f k x=x
 |0=>rfl
 |k+1=>by simp only[aS];rw[LL h k];exact h
theorem SY{f:Nat->Nat}(hf:bJ N f){a v:Nat}(ha:a<N)(WV:a≠v)(hs:f a=v):swp f a v v=v/\ ∀x y,x<N->y<N->x≠v->y≠v->(SC f x y↔SC (swp f a v) x y):=by
 have hv:v<N:=by rw[<-hs];exact hf.lt a ha
 have tW:swp f a v v=v:=by unfold swp;rw[zL (Ne.symm WV),zM rfl];exact hs
 refine⟨tW,fun x y hx hy nx ny=>?_⟩;have iF:SC f a v:=⟨1,hs⟩;have mE:=sM hf ha hv;have cP:=vf hf ha WV iF;have hj:=pT mE ha hv cP x y hx hy;rw[vc]at hj;rw[hj];have Wf:∀z,SC (swp f a v) v z->z=v:=fun z ⟨k,hk⟩=>hk▸LL tW k;constructor
 ·rintro (e|⟨_,e⟩|⟨e,_⟩)
  ·exact e
  ·exact zzA (Wf _ e) ny
  ·exact zzA (Wf _ (e.symm mE hx)) nx
 ·exact .inl
def gw(al:Nat->Nat)(u v x:Nat):Nat:=if x=u then v else if x=v then u else if x=al u then al v else if x=al v then al u else al x
theorem cb.sE(h:cb N si al){u v:Nat}(hu:u<N)(hv:v<N)(tQ:u≠v)(s1:si u=v)(s2:si v=u)(aJ:al u≠v):cb N si (gw al u v):=by
 have hs:=h.perm;have ha:=h.aW;obtain⟨a,ea⟩:∃a,al u=a:=⟨_,rfl⟩;obtain⟨b,eb⟩:∃b,al v=b:=⟨_,rfl⟩;have la:a<N:=by rw[<-ea];exact ha.lt u hu
 have lb:b<N:=by rw[<-eb];exact ha.lt v hv
 have ia:al a=u:=by rw[<-ea];exact ha.inv u hu
 have ib:al b=v:=by rw[<-eb];exact ha.inv v hv
 have Ac:a≠u:=by rw[<-ea];exact ha.ne u hu
 have Aa:b≠v:=by rw[<-eb];exact ha.ne v hv
 have Ab:a≠v:=by rw[<-ea];exact aJ
 have Bn:b≠u:=fun e=>Ab (by rw[<-ea,<-e,ib]);have Ad:a≠b:=fun e=>tQ (by rw[<-ia,<-ib,e]);have du:gw al u v u=v:=by unfold gw;rw[zM rfl]
 have dv:gw al u v v=u:=by unfold gw;rw[zL (Ne.symm tQ),zM rfl]
 have AO:gw al u v a=b:=by unfold gw;rw[zL Ac,zL Ab,ea,zM rfl,eb]
 have Cb:gw al u v b=a:=by unfold gw;rw[zL Bn,zL Aa,ea,zL (Ne.symm Ad),eb,zM rfl]
 have dx:∀x,x≠u->x≠v->x≠a->x≠b->gw al u v x=al x:=fun x h1 h2 h3 h4=>by unfold gw;rw[zL h1,zL h2,ea,zL h3,eb,zL h4]
 have dc:∀x,x=u\/x=v\/x=a\/x=b\/(x≠u/\x≠v/\x≠a/\x≠b):=fun x=>by omega
 have Cc:∀x,x<N->x≠u->x≠v->x≠a->x≠b->al x≠u/\al x≠v/\al x≠a/\al x≠b:=fun x hx h1 h2 h3 h4=>by
  have i:=ha.inv x hx;refine⟨fun e=>h3 (by rw[<-i,e,ea]),fun e=>h4 (by rw[<-i,e,eb]),fun e=>h1 (by rw[<-i,e,ia]),fun e=>h2 (by rw[<-i,e,ib])⟩
 have cG:bI N (gw al u v):=by
  refine⟨fun x hx=>?_,fun x hx=>?_,fun x hx=>?_⟩
  ·rcases dc x with rfl|rfl|rfl|rfl|⟨h1,h2,h3,h4⟩
   ·rw[du];exact hv
   ·rw[dv];exact hu
   ·rw[AO];exact lb
   ·rw[Cb];exact la
   ·rw[dx x h1 h2 h3 h4];exact ha.lt x hx
  ·rcases dc x with rfl|rfl|rfl|rfl|⟨h1,h2,h3,h4⟩
   ·rw[du,dv]
   ·rw[dv,du]
   ·rw[AO,Cb]
   ·rw[Cb,AO]
   ·obtain⟨k1,k2,k3,k4⟩:=Cc x hx h1 h2 h3 h4;rw[dx x h1 h2 h3 h4,dx _ k1 k2 k3 k4];exact ha.inv x hx
  ·rcases dc x with rfl|rfl|rfl|rfl|⟨h1,h2,h3,h4⟩
   ·rw[du];exact Ne.symm tQ
   ·rw[dv];exact tQ
   ·rw[AO];exact Ne.symm Ad
   ·rw[Cb];exact Ad
   ·rw[dx x h1 h2 h3 h4];exact ha.ne x hx
 have hE:=bH hs ha;have bX:=bH hs cG;have Dq:KK si al N u v:=by have:=cw hs ha hu;rwa [s1]at this
 have Oo:KK si al N u a:=by have:=bS hs ha hu;rwa [ea]at this
 have On:KK si al N v b:=by have:=bS hs ha hv;rwa [eb]at this
 have V1:KK si al N a b:=hE.trans _ _ _ la hu lb (hE.symm _ _ hu la Oo) (hE.trans _ _ _ hu hv lb Dq On);have cF:∀x y,x<N->y<N->KK si (gw al u v) N x y->KK si al N x y:=fun x y hx hy hk=>by
  refine bb hs cG hE (fun x hx=>cw hs ha hx) (fun x hx=>?_) hx hy hk;rcases dc x with rfl|rfl|rfl|rfl|⟨h1,h2,h3,h4⟩
  ·rw[du];exact Dq
  ·rw[dv];exact hE.symm _ _ hu hv Dq
  ·rw[AO];exact V1
  ·rw[Cb];exact hE.symm _ _ la lb V1
  ·rw[dx x h1 h2 h3 h4];exact bS hs ha hx
 have FP:KK si (gw al u v) N a b:=by have:=bS hs cG la;rwa [AO]at this
 have Bj:∀x,x<N->((x=u\/x=v)↔(si x=u\/si x=v)):=fun x hx=>by
  constructor
  ·rintro (rfl|rfl)
   ·exact .inr s1
   ·exact .inl s2
  ·rintro (e|e)
   ·exact .inr (hs.inj x v hx hv (by rw[e,s2]))
   ·exact .inl (hs.inj x u hx hu (by rw[e,s1]))
 have vM:∀x y,x<N->y<N->x≠u->x≠v->y≠u->y≠v->KK si al N x y->KK si (gw al u v) N x y:=fun x y hx hy x1 x2 y1 y2 hk=>by
  obtain⟨r,hr⟩:∃r:Nat->Nat,∀x,r x=if x=u then a else if x=v then b else x:=⟨_,fun _=>rfl⟩;have ru:r u=a:=by rw[hr,zM rfl]
  have rv:r v=b:=by rw[hr,zL (Ne.symm tQ),zM rfl]
  have ro:∀x,x≠u->x≠v->r x=x:=fun x h1 h2=>by rw[hr,zL h1,zL h2]
  have rl:∀x,x<N->r x<N:=fun x hx=>by
   rw[hr];split
   ·exact la
   ·split
    ·exact lb
    ·exact hx
  have key:KK si (gw al u v) N (r x) (r y):=by
   refine bb (R:=fun x y=>KK si (gw al u v) N (r x) (r y)) hs ha ⟨fun x hx=>bX.rfl' _ (rl x hx),fun x y hx hy e=>bX.symm _ _ (rl x hx) (rl y hy) e,fun x y z hx hy hz e1 e2=>bX.trans _ _ _ (rl x hx) (rl y hy) (rl z hz) e1 e2⟩ (fun x hx=>?_) (fun x hx=>?_) hx hy hk
   ·by_cases h1:x=u
    ·subst h1;rw[s1,ru,rv];exact FP
    ·by_cases h2:x=v
     ·subst h2;rw[s2,ru,rv];exact bX.symm _ _ la lb FP
     ·have:=Bj x hx
      have h3:¬(si x=u\/si x=v):=fun e=>by have:=this.2 e;omega
      rw[ro x h1 h2,ro (si x) (fun e=>h3 (.inl e)) (fun e=>h3 (.inr e))];exact cw hs cG hx
   ·rcases dc x with rfl|rfl|rfl|rfl|⟨h1,h2,h3,h4⟩
    ·rw[ea,ru,ro a Ac Ab];exact bX.rfl' _ la
    ·rw[eb,rv,ro b Bn Aa];exact bX.rfl' _ lb
    ·rw[ia,ru,ro x Ac Ab];exact bX.rfl' _ la
    ·rw[ib,rv,ro x Bn Aa];exact bX.rfl' _ lb
    ·obtain⟨k1,k2,_,_⟩:=Cc x hx h1 h2 h3 h4;rw[ro x h1 h2,ro _ k1 k2]
     have:=bS hs cG hx
     rwa [dx x h1 h2 h3 h4]at this
  rwa [ro x x1 x2,ro y y1 y2]at key
 have F5:∀x y,x<N->y<N->KK si (gw al u v) N x y->((x=u\/x=v)↔(y=u\/y=v)):=fun x y hx hy hk=>by
  refine bb (R:=fun x y=>((x=u\/x=v)↔(y=u\/y=v))) hs cG ⟨fun _ _=>Iff.rfl,fun _ _ _ _ e=>e.symm,fun _ _ _ _ _ _ e1 e2=>e1.trans e2⟩ (fun x hx=>Bj x hx) (fun x hx=>?_) hx hy hk;rcases dc x with rfl|rfl|rfl|rfl|⟨h1,h2,h3,h4⟩
  ·rw[du];simp
  ·rw[dv];simp
  ·rw[AO];simp[Ac,Ab,Bn,Aa]
  ·rw[Cb];simp[Ac,Ab,Bn,Aa]
  ·obtain⟨k1,k2,_,_⟩:=Cc x hx h1 h2 h3 h4;rw[dx x h1 h2 h3 h4];simp[h1,h2,k1,k2]
 have dL:=aN hs ha N (zA _);have eO:=aN hs cG N (zA _);have fa:aM si al N a=v:=by rw[aX ha la,ia,s1]
 obtain⟨fx1,fx2⟩:=SY dL la Ab fa;have hq:=sM dL la hv;have fb:swp (aM si al N) a v b=u:=by unfold swp;rw[zL (Ne.symm Ad),zL Aa,aX ha lb,ib,s2]
 obtain⟨fx3,fx4⟩:=SY hq lb Bn fb;have p6:=sM hq lb hu;have sk:∀x,x<N->swp (swp (aM si al N) a v) b u x=aM si (gw al u v) N x:=fun x hx=>by
  rw[aX cG hx];rcases dc x with rfl|rfl|rfl|rfl|⟨h1,h2,h3,h4⟩
  ·rw[du,s2];exact fx3
  ·rw[dv,s1];unfold swp;rw[zL (Ne.symm Aa),zL (Ne.symm tQ)];exact fx1
  ·rw[AO];unfold swp;rw[zL Ad,zL Ac,zM rfl,aX ha hv,eb]
  ·rw[Cb];unfold swp;rw[zM rfl,zL (Ne.symm Ac),zL tQ,aX ha hu,ea]
  ·rw[dx x h1 h2 h3 h4];unfold swp;rw[zL h4,zL h1,zL h3,zL h2,aX ha hx]
 have iF:∀x y,x<N->y<N->x≠u->x≠v->y≠u->y≠v->(SC (aM si al N) x y↔SC (aM si (gw al u v) N) x y):=fun x y hx hy x1 x2 y1 y2=>
  (fx2 x y hx hy x2 y2).trans ((fx4 x y hx hy x1 y1).trans (uA p6 sk hx))
 refine⟨hs,cG,fun r hr kV kF kg jd=>?_⟩;by_cases sW:r=u\/r=v
 ·--the circle of the two darts
  have cW:∀x,x<N->(KK si (gw al u v) N r x↔(x=u\/x=v)):=fun x hx=>by
   refine⟨fun e=>(F5 r x hr hx e).1 sW,fun e=>?_⟩;have FK:KK si (gw al u v) N u v:=by have:=cw hs cG hu;rwa [s1]at this
   rcases sW with rfl|rfl<;>rcases e with rfl|rfl
   ·exact bX.rfl' _ hr
   ·exact FK
   ·exact bX.symm _ _ hx hr FK
   ·exact bX.rfl' _ hr
  have tV:Tr N (KK si (gw al u v) N r) (SC si) [u]:=by
   refine⟨fun x hx=>?_,by simp,fun x hx y hy _=>?_,fun x hx e=>⟨u,by simp,?_⟩⟩
   ·simp at hx;subst hx;exact⟨hu,(cW _ hu).2 (.inl rfl)⟩
   ·simp at hx hy;rw[hx,hy]
   ·rcases (cW x hx).1 e with rfl|rfl
    ·exact .refl _ _
    ·exact⟨1,s2⟩
  have Qa:aM si (gw al u v) N u=u:=by rw[aX cG hu,du,s2]
  have P9:aM si (gw al u v) N v=v:=by rw[aX cG hv,dv,s1]
  have AM:∀x y,aM si (gw al u v) N x=x->SC (aM si (gw al u v) N) x y->y=x:=fun x y hf ⟨k,hk⟩=>hk▸LL hf k;have tF:Tr N (KK si (gw al u v) N r) (SC (aM si (gw al u v) N)) [u,v]:=by
   refine⟨fun x hx=>?_,by simp[tQ],fun x hx y hy e=>?_,fun x hx e=>?_⟩
   ·simp at hx;rcases hx with rfl|rfl
    ·exact⟨hu,(cW _ hu).2 (.inl rfl)⟩
    ·exact⟨hv,(cW _ hv).2 (.inr rfl)⟩
   ·simp at hx;rcases hx with rfl|rfl
    ·exact(AM _ _ Qa e).symm
    ·exact(AM _ _ P9 e).symm
   ·rcases (cW x hx).1 e with rfl|rfl
    ·exact⟨x,by simp,.refl _ _⟩
    ·exact⟨x,by simp,.refl _ _⟩
  have e1:=tV.bd (SC.eqv hs) kg;have e2:=tF.bd (SC.eqv eO) jd;have e3:=tD cG (dX hs cG hr).2;have e4:cU (KK si (gw al u v) N r) N=2:=by
   rw[EK cW,HN (fun x _ e1 e2=>tQ (e1.symm.trans e2)),Ea,Ea,zM hu,zM hv]
  simp at e1 e2;omega
 ·have r1:r≠u:=fun e=>sW (.inl e);have r2:r≠v:=fun e=>sW (.inr e);have BK:∀x,x<N->KK si (gw al u v) N r x->x≠u/\x≠v:=fun x hx e=>by
   have:=(F5 r x hr hx e)
   exact⟨fun g=>sW (this.2 (.inl g)),fun g=>sW (this.2 (.inr g))⟩
  have cW:∀x,x<N->x≠u->x≠v->(KK si (gw al u v) N r x↔KK si al N r x):=fun x hx x1 x2=>⟨cF r x hr hx,vM r x hr hx r1 r2 x1 x2⟩;by_cases Aq:KK si al N r u
  ·have Wl:=hE.trans _ _ _ hr hu hv Aq Dq;have hra:=hE.trans _ _ _ hr hu la Aq Oo;have Wn:=hE.trans _ _ _ hr hv lb Wl On;have tV:Tr N (KK si al N r) (SC si) (u::kV):=by
    refine⟨fun x hx=>?_,?_,fun x hx y hy e=>?_,fun x hx e=>?_⟩
    ·rcases zzD.1 hx with rfl|g
     ·exact⟨hu,Aq⟩
     ·exact⟨(kg.mem x g).1,cF r x hr (kg.mem x g).1 (kg.mem x g).2⟩
    ·exact List.nodup_cons.2 ⟨fun g=>(BK u hu (kg.mem u g).2).1 rfl,kg.nodup⟩
    ·have OH:∀k,aS si k u=u\/aS si k u=v:=fun k=>by
      induction k with
      |zero=>exact .inl rfl
      |succ k ih=>exact(Bj _ (hs.bW hu k)).1 ih
     have F8:∀z,SC si u z->z=u\/z=v:=fun z ⟨k,hk⟩=>hk▸OH k;rcases zzD.1 hx with rfl|g<;>rcases zzD.1 hy with rfl|k
     ·rfl
     ·have:=BK y (kg.mem y k).1 (kg.mem y k).2
      have:=F8 y e
      omega
     ·have:=BK x (kg.mem x g).1 (kg.mem x g).2
      have:=F8 x (e.symm hs (kg.mem x g).1)
      omega
     ·exact kg.apart x g y k e
    ·by_cases x1:x=u
     ·exact⟨u,by simp,by rw[x1];exact .refl _ _⟩
     ·by_cases x2:x=v
      ·exact⟨u,by simp,by rw[x2];exact⟨1,s2⟩⟩
      ·obtain⟨y,h1,h2⟩:=kg.all x hx ((cW x hx x1 x2).2 e);exact⟨y,by simp[h1],h2⟩
   have tF:Tr N (KK si al N r) (SC (aM si al N)) kF:=by
    refine⟨fun x hx=>⟨(jd.mem x hx).1,cF r x hr (jd.mem x hx).1 (jd.mem x hx).2⟩,jd.nodup,fun x hx y hy e=>?_,fun x hx e=>?_⟩
    ·have nx:=BK x (jd.mem x hx).1 (jd.mem x hx).2;have ny:=BK y (jd.mem y hy).1 (jd.mem y hy).2;exact jd.apart x hx y hy ((iF x y (jd.mem x hx).1 (jd.mem y hy).1 nx.1 nx.2 ny.1 ny.2).1 e)
    ·have step:∀z,z<N->z≠u->z≠v->KK si al N r z->∃y,y∈kF/\SC (aM si al N) z y:=fun z hz z1 z2 ez=>by
      obtain⟨y,h1,h2⟩:=jd.all z hz ((cW z hz z1 z2).2 ez);have ny:=BK y (jd.mem y h1).1 (jd.mem y h1).2;exact⟨y,h1,(iF z y hz (jd.mem y h1).1 z1 z2 ny.1 ny.2).2 h2⟩
     by_cases x1:x=u
     ·obtain⟨y,h1,h2⟩:=step b lb Bn Aa Wn;refine⟨y,h1,?_⟩
      have:SC (aM si al N) b u:=⟨1,by show aM si al N b=u;rw[aX ha lb,ib,s2]⟩
      rw[x1];exact(this.symm dL lb).trans h2
     ·by_cases x2:x=v
      ·obtain⟨y,h1,h2⟩:=step a la Ac Ab hra;refine⟨y,h1,?_⟩
       have:SC (aM si al N) a v:=⟨1,fa⟩
       rw[x2];exact(this.symm dL la).trans h2
      ·exact step x hx x1 x2 e
   have e0:=h.eq r hr _ _ tV tF;have e1:=tD ha (dX hs ha hr).2;have e2:=tD cG (dX hs cG hr).2;have e3:cU (KK si al N r) N=cU (KK si (gw al u v) N r) N+2:=by
    have c1:cU (KK si al N r) N=cU (fun x=>KK si (gw al u v) N r x\/(x=u\/x=v)) N:=EK fun x hx=>by
     by_cases x1:x=u
     ·subst x1;exact⟨fun _=> .inr (.inl rfl),fun _=>Aq⟩
     ·by_cases x2:x=v
      ·subst x2;exact⟨fun _=> .inr (.inr rfl),fun _=>Wl⟩
      ·rw[cW x hx x1 x2];simp[x1,x2]
    rw[c1,HN (fun x hx e1 e2=>by have:=BK x hx e1;omega),HN (fun x _ e1 e2=>tQ (e1.symm.trans e2)),Ea,Ea,zM hu,zM hv]
   simp only[zH]at e0;omega
  ·have v8:∀x,x<N->KK si al N r x->x≠u/\x≠v/\x≠a/\x≠b:=fun x hx e=>by
    refine⟨fun g=>?_,fun g=>?_,fun g=>?_,fun g=>?_⟩
    ·subst g;exact Aq e
    ·subst g;exact Aq (hE.trans _ _ _ hr hx hu e (hE.symm _ _ hu hx Dq))
    ·subst g;exact Aq (hE.trans _ _ _ hr hx hu e (hE.symm _ _ hu hx Oo))
    ·subst g;exact Aq (hE.trans _ _ _ hr hx hu e (hE.trans _ _ _ hx hv hu (hE.symm _ _ hv hx On) (hE.symm _ _ hu hv Dq)))
   have wA:∀x,x<N->(KK si (gw al u v) N r x↔KK si al N r x):=fun x hx=>by
    refine⟨cF r x hr hx,fun e=>?_⟩
    have:=v8 x hx e
    exact(cW x hx this.1 this.2.1).2 e
   have tV:Tr N (KK si al N r) (SC si) kV:=kg.aZ wA (fun _ _ _ _ _ _=>Iff.rfl);have tF:Tr N (KK si al N r) (SC (aM si al N)) kF:=jd.aZ wA (fun x y hx hy e1 e2=>by
    have n1:=v8 x hx ((wA x hx).1 e1);have n2:=v8 y hy ((wA y hy).1 e2);exact(iF x y hx hy n1.1 n1.2.1 n2.1 n2.2.1).symm)
   have e0:=h.eq r hr _ _ tV tF;rw[e0];congr 1;exact xR fun x hx=>by
    rw[wA x hx];constructor
    ·rintro⟨g1,g2⟩
     have:=v8 x hx g1
     exact⟨g1,by rw[dx x this.1 this.2.1 this.2.2.1 this.2.2.2];exact g2⟩
    ·rintro⟨g1,g2⟩
     have:=v8 x hx g1
     exact⟨g1,by rw[dx x this.1 this.2.1 this.2.2.1 this.2.2.2]at g2;exact g2⟩
end
open Classical
def ai(x:Nat):Nat:=x-x % 4+(x % 4+3)% 4
def ae(m:List Int)(x:Nat):Nat:=(m.getD x 0).toNat
theorem bU(x:Nat):ai x/4=x/4:=by unfold ai;omega
theorem aH(n:Nat):bJ (4*n) ai:=⟨fun x hx=>by unfold ai;omega,fun x y hx hy e=>by unfold ai at e;omega⟩
theorem iY{x y:Nat}:SC ai x y↔x/4=y/4:=by
 constructor
 ·rintro⟨k,rfl⟩
  induction k with
  |zero=>rfl
  |succ k ih=>simp only[aS];rw[bU];exact ih
 ·intro e;refine⟨(x % 4+4-y % 4)% 4,?_⟩;have h4:x % 4=0\/x % 4=1\/x % 4=2\/x % 4=3:=by omega
  have k4:y % 4=0\/y % 4=1\/y % 4=2\/y % 4=3:=by omega
  rcases h4 with h|h|h|h<;>rcases k4 with k|k|k|k<;>rw[h,k]<;>first|(simp only[aS,ai];omega)|(show x=y;omega)
section
variable{m:List Int}{n:Nat}
structure bm(m:List Int)(n:Nat):Prop where
 prd:gQ m n
 ne:∀h:Nat,h<4*n->m.getD h 0≠h
theorem bm.cast(h:bm m n){x:Nat}(hx:x<4*n):((ae m x:Nat):Int)=m.getD x 0:=by
 have:=h.prd.ok.2 x hx;unfold ae;omega
theorem bm.aW(h:bm m n):bI (4*n) (ae m):=by
 refine⟨fun x hx=>?_,fun x hx=>?_,fun x hx=>?_⟩
 ·have:=h.prd.ok.2 x hx;unfold ae;omega
 ·have:=h.prd.inv x hx;unfold ae;rw[this];simp
 ·intro e;exact h.ne x hx (by rw[<-h.cast hx,e])
theorem bm.conn(h:bm m n){x y:Nat}(hx:x<4*n)(hy:y<4*n):KK ai (ae m) (4*n) x y↔bN m (x/4) (y/4):=by
 have hs:=aH n;have ha:=h.aW;have hE:=bH hs ha;constructor
 ·refine fun hk=>bb (R:=fun x y=>bN m (x/4) (y/4)) hs ha ⟨fun _ _=> .refl _,fun x y hx _ e=>e.symm h.prd (by omega),fun _ _ _ _ _ _ e1 e2=>e1.trans e2⟩ (fun x _=>?_) (fun x hx=>?_) hx hy hk
  ·rw[bU];exact .refl _
  ·have:ae m x/4=nb m (x/4) (x % 4):=by
    unfold nb ae;rw[show 4*(x/4)+x % 4=x by omega]
    have:=h.prd.ok.2 x hx
    omega
   rw[this];exact .step _ (by omega) (.refl _)
 ·have key:∀{a b:Nat},bN m a b->a<n->∀x y,x/4=a->y/4=b->KK ai (ae m) (4*n) x y:=fun {a b} hc Ki=>by
   induction hc with
   |refl=>intro x y hx hy;exact nU hs ha (by omega) (iY.2 (by omega))
   | @step b s h4 hc ih=>
     intro x y hx hy;have hb:=hc.lt h.prd Ki;have h1:=ih x (4*b+s) hx (by omega);have h2:=bS hs ha (x:=4*b+s) (by omega);have hl:=ha.lt (4*b+s) (by omega);have h3:ae m (4*b+s)/4=nb m b s:=by
      unfold nb ae
      have:=h.prd.ok.2 (4*b+s) (by omega)
      omega
     have Dt:y<4*n:=by omega
     exact hE.trans _ _ _ (by omega) (by omega) Dt h1 (hE.trans _ _ _ (by omega) hl Dt h2 (nU hs ha hl (iY.2 (by omega))))
  intro hc;exact key hc (by omega) x y rfl rfl
theorem bm.it(h:bm m n){x:Nat}(hx:x<4*n):∀k,it (iB m) k x=(aS (aM ai (ae m) (4*n)) k x:Nat)
 |0=>rfl
 |k+1=>by
  have hl:=(aN (aH n) h.aW (4*n) (zA _)).bW hx k;simp only[aS,Go.Proofs.YthohfoombimbeaaGreatDoor.it];rw[h.it hx k,aX h.aW hl];generalize aS (aM ai (ae m) (4*n)) k x=z at*;unfold iB;rw[zD,ur,<-h.cast hl];unfold ai;omega
theorem bm.jh(h:bm m n){x y:Nat}(hx:x<4*n):(y:Int)∈c9 (iB m) m.length x↔SC (aM ai (ae m) (4*n)) x y:=by
 have dw:=h.prd.ok.1;have ho:=(C6 (zq h.prd) (x:=x) (by unfold cE;omega)).1 y;rw[dw,ho];constructor
 ·rintro⟨j,e⟩;rw[h.it hx j]at e;exact⟨j,by omega⟩
 ·rintro⟨j,e⟩;exact⟨j,by rw[h.it hx j,e]⟩
theorem RS(P:Nat->Prop):∀n,cU (fun x=>P (x/4)) (4*n)=4*cU P n
 |0=>by simp[cU]
 |n+1=>by
  rw[show 4*(n+1)=4*n+1+1+1+1 by omega,tE,tE,tE,tE,RS P n,tE];rw[show 4*n/4=n by omega,show (4*n+1)/4=n by omega,show (4*n+1+1)/4=n by omega,show (4*n+1+1+1)/4=n by omega]
  split<;>omega
theorem bm.E8(h:bm m n){a:Nat}(ha:a<n){u:Int}(hu:∀b,b<n->((dZ m n n).getD b 0=u↔bN m a b)){r:Nat}(hr:r/4=a):
  (∃l,Tr (4*n) (KK ai (ae m) (4*n) r) (SC ai) l/\l.length=gZ (dZ m n n) n u)/\cU (KK ai (ae m) (4*n) r) (4*n)=4*gZ (dZ m n n) n u:=by
 have nI:r<4*n:=by omega
 have nL:∀x,x<4*n->(KK ai (ae m) (4*n) r x↔(dZ m n n).getD (x/4) 0=u):=fun x hx=>by
  rw[h.conn nI hx,hr,hu (x/4) (by omega)]
 refine⟨⟨((List.range n).filter fun c=>(dZ m n n).getD c 0==u).map (4* ·),⟨fun x hx=>?_,?_,fun x hx y hy e=>?_,fun x hx e=>?_⟩,?_⟩,?_⟩
 ·obtain⟨c,hc,rfl⟩:=zzE.1 hx;have h1:=List.mem_filter.1 hc;have h2:=zK.1 h1.1;refine⟨by omega,(nL _ (by omega)).2 ?_⟩;rw[show 4*c/4=c by omega];simpa using h1.2
 ·exact List.Pairwise.map _ (fun a b gL e=>gL (by omega)) (List.nodup_range.filter _)
 ·obtain⟨c,_,rfl⟩:=zzE.1 hx;obtain⟨d,_,rfl⟩:=zzE.1 hy
  have:=iY.1 e
  omega
 ·refine⟨4*(x/4),zzE.2 ⟨x/4,List.mem_filter.2 ⟨zK.2 (by omega),by simpa using (nL x hx).1 e⟩,rfl⟩,iY.2 (by omega)⟩
 ·rw[List.length_map,<-List.countP_eq_length_filter];rfl
 ·rw[EK nL,RS (fun c=>(dZ m n n).getD c 0=u)];congr 1;unfold cU gZ;refine List.countP_congr fun c _=>?_;simp
theorem bm.Xn(h:bm m n){a:Nat}(ha:a<n){u:Int}(hu:∀b,b<n->((dZ m n n).getD b 0=u↔bN m a b)){r:Nat}(hr:r/4=a):
  ∃l,Tr (4*n) (KK ai (ae m) (4*n) r) (SC (aM ai (ae m) (4*n))) l/\l.length=jP m (dZ m n n) (4*n) u:=by
 have nI:r<4*n:=by omega
 have nL:∀x,x<4*n->(KK ai (ae m) (4*n) r x↔(dZ m n n).getD (x/4) 0=u):=fun x hx=>by
  rw[h.conn nI hx,hr,hu (x/4) (by omega)]
 have dL:=aN (aH n) h.aW (4*n) (zA _);have qT:∀x,x<4*n->(fl m x=true↔ ∀y,SC (aM ai (ae m) (4*n)) x y->x<=y):=fun x hx=>by
  unfold fl;rw[Nf];constructor
  ·intro hl y hy
   have:=hl y ((h.jh hx).2 hy)
   omega
  ·intro hl y hy;have xu:=(C6 (zq h.prd) (x:=x) (by unfold cE;omega)).2.1 y (by rw[h.prd.ok.1]at hy;exact hy);unfold cE at xu;obtain⟨z,rfl⟩:∃z:Nat,y=z:=⟨y.toNat,by omega⟩
   have:=hl z ((h.jh hx).1 hy)
   omega
 refine⟨(List.range (4*n)).filter fun i=>fl m i&&(dZ m n n).getD (i/4) 0==u,⟨fun x hx=>?_,List.nodup_range.filter _,fun x hx y hy e=>?_,fun x hx e=>?_⟩,?_⟩
 ·have h1:=List.mem_filter.1 hx;have h2:=zK.1 h1.1;refine⟨h2,(nL x h2).2 ?_⟩
  have:=h1.2
  rw[zV]at this;simpa using this.2
 ·have h1:=List.mem_filter.1 hx;have h2:=List.mem_filter.1 hy;have l1:=zK.1 h1.1;have l2:=zK.1 h2.1;have f1:=(qT x l1).1 ((zV _ _▸h1.2).1);have f2:=(qT y l2).1 ((zV _ _▸h2.2).1)
  have:=f1 y e
  have:=f2 x (e.symm dL l1)
  omega
 ·have key:∀k x,x<k->x<4*n->(dZ m n n).getD (x/4) 0=u->∃y,y∈((List.range (4*n)).filter fun i=>fl m i&&(dZ m n n).getD (i/4) 0==u)/\SC (aM ai (ae m) (4*n)) x y:=fun k=>by
   induction k with
   |zero=>intro x h;omega
   |succ k ih=>
    intro x hk hx Wg;by_cases hl:∃y,SC (aM ai (ae m) (4*n)) x y/\y<x
    ·obtain⟨y,h1,h2⟩:=hl;have Dt:y<4*n:=by omega
     have huy:(dZ m n n).getD (y/4) 0=u:=by
      have p7:=nV (aH n) h.aW hx h1
      have:=(nL x hx).2 Wg
      exact(nL y Dt).1 ((bH (aH n) h.aW).trans _ _ _ nI hx Dt this p7)
     obtain⟨z,h3,h4⟩:=ih y (by omega) Dt huy;exact⟨z,h3,h1.trans h4⟩
    ·refine⟨x,List.mem_filter.2 ⟨zK.2 hx,?_⟩,.refl _ _⟩;rw[zV];exact⟨(qT x hx).2 fun y hy=>Nat.le_of_not_lt fun aC=>hl ⟨y,hy,aC⟩,by simpa using Wg⟩
  exact key (x+1) x (by omega) hx ((nL x hx).1 e)
 ·rw[<-List.countP_eq_length_filter];rfl
theorem bm.qk(h:bm m n):qj m n=true↔cb (4*n) ai (ae m):=by
 have dL:=aN (aH n) h.aW (4*n) (zA _);rw[S4];constructor
 ·intro hr;refine⟨aH n,h.aW,fun r nI lV lF hV hF=>?_⟩;obtain⟨u,hu,hc,mJ⟩:=LP h.prd (a:=r/4) (by omega);have e0:=hr u hu ((mJ u hu).2 (hc.symm h.prd hu));obtain⟨⟨l1,t1,n1⟩,hcU⟩:=h.E8 (a:=r/4) (by omega) mJ rfl;obtain⟨l2,t2,n2⟩:=h.Xn (a:=r/4) (by omega) mJ rfl;have e1:=hV.bd (SC.eqv (aH n)) t1;have e2:=hF.bd (SC.eqv dL) t2
  have e3:=tD h.aW (dX (aH n) h.aW nI).2;omega
 ·intro hS c hc Pe;obtain⟨u,hu,hcc,mJ⟩:=LP h.prd (a:=c) hc;have huc:(u:Int)=c:=by rw[<-Pe];exact((mJ c hc).2 (.refl _)).symm
  have OC:u=c:=by omega
  subst OC;obtain⟨⟨l1,t1,n1⟩,hcU⟩:=h.E8 (a:=u) hc mJ (r:=4*u) (by omega);obtain⟨l2,t2,n2⟩:=h.Xn (a:=u) hc mJ (r:=4*u) (by omega);have e0:=hS.eq (4*u) (by omega) l1 l2 t1 t2;have e3:=tD h.aW (dX (aH n) h.aW (r:=4*u) (by omega)).2;omega
end
open Classical
section
variable{N N':Nat}{si al si' al' io:Nat->Nat}
def G8(N:Nat)(si al:Nat->Nat)(r:Nat):Prop:=∀lV lF,Tr N (KK si al N r) (SC si) lV->Tr N (KK si al N r) (SC (aM si al N)) lF->lV.length+lF.length=2+eU al (KK si al N r) N
theorem Mq(hs:bJ N si)(ha:bI N al)(il:∀x,x<N'->io x<N)(ii:∀x y,x<N'->y<N'->io x=io y->x=y)(ls:∀x,x<N'->si' x<N')(la:∀x,x<N'->al' x<N')
  (es:∀x,x<N'->io (si' x)=si (io x)) (ea:∀x,x<N'->io (al' x)=al (io x)):bJ N' si'/\bI N' al'/\ ∀r,r<N'->(G8 N si al (io r)↔G8 N' si' al' r):=by
 have a7:bJ N' si':=⟨ls,fun x y hx hy e=>ii x y hx hy (hs.inj _ _ (il x hx) (il y hy) (by rw[<-es x hx,<-es y hy,e]))⟩;have cG:bI N' al':=by
  refine⟨la,fun x hx=>ii _ _ (la _ (la x hx)) hx (by rw[ea _ (la x hx),ea x hx];exact ha.inv _ (il x hx)),fun x hx e=>ha.ne _ (il x hx) (by rw[<-ea x hx,e])⟩
 have hE:=bH hs ha;have bX:=bH a7 cG;have dL:=aN hs ha N (zA _);have eO:=aN a7 cG N' (zA _);have yH:∀{f f':Nat->Nat} (_:∀x,x<N'->f' x<N') (_:∀x,x<N'->io (f' x)=f (io x)) (x y:Nat),x<N'->y<N'->(SC f' x y↔SC f (io x) (io y)):=fun {f f'} hl he x y hx hy=>by
  have hk:∀k,aS f' k x<N'/\io (aS f' k x)=aS f k (io x):=fun k=>by
   induction k with
   |zero=>exact⟨hx,rfl⟩
   |succ k ih=>exact⟨hl _ ih.1,by simp only[aS];rw[he _ ih.1,ih.2]⟩
  constructor
  ·rintro⟨k,rfl⟩;exact⟨k,(hk k).2.symm⟩
  ·rintro⟨k,e⟩;exact⟨k,ii _ _ (hk k).1 hy (by rw[(hk k).2,e])⟩
 have Wj:=yH ls es;have sk:=yH (f:=aM si al N) (f':=aM si' al' N') (fun x hx=>eO.lt x hx) (fun x hx=>by
  rw[aX cG hx,aX ha (il x hx),es _ (la x hx),ea x hx])
 have DI:∀u,u<N->((∃x,x<N'/\io x=u)↔(∃x,x<N'/\io x=si u)):=fun u hu=>by
  constructor
  ·rintro⟨x,hx,rfl⟩;exact⟨si' x,ls x hx,es x hx⟩
  ·rintro⟨x,hx,e⟩;obtain⟨k,hk⟩:=(SC.step si u).symm hs hu;rw[<-e]at hk
   have:∀k,∃y,y<N'/\io y=aS si k (io x):=fun k=>by
    induction k with
    |zero=>exact⟨x,hx,rfl⟩
    |succ k ih=>obtain⟨y,hy,e⟩:=ih;exact⟨si' y,ls y hy,by rw[es y hy,e];rfl⟩
   obtain⟨y,hy,e2⟩:=this k;exact⟨y,hy,by rw[e2,hk]⟩
 have WE:∀u,u<N->((∃x,x<N'/\io x=u)↔(∃x,x<N'/\io x=al u)):=fun u hu=>by
  constructor
  ·rintro⟨x,hx,rfl⟩;exact⟨al' x,la x hx,ea x hx⟩
  ·rintro⟨x,hx,e⟩;exact⟨al' x,la x hx,by rw[ea x hx,e];exact ha.inv u hu⟩
 have hKR:dG N (fun u v=>((∃x,x<N'/\io x=u)↔(∃y,y<N'/\io y=v))/\ ∀x y,x<N'->y<N'->io x=u->io y=v->KK si' al' N' x y):=by
  refine⟨fun u _=>⟨Iff.rfl,fun x y hx hy e1 e2=>?_⟩,fun u v _ _ e=>⟨e.1.symm,fun x y hx hy e1 e2=>bX.symm _ _ hy hx (e.2 y x hy hx e2 e1)⟩,fun u v w _ _ _ e1 e2=>⟨e1.1.trans e2.1,fun x y hx hy g1 g2=>?_⟩⟩
  ·have:=ii x y hx hy (by rw[e1,e2]);subst this;exact bX.rfl' _ hx
  ·obtain⟨z,hz,e⟩:=e1.1.1 ⟨x,hx,g1⟩;exact bX.trans _ _ _ hx hz hy (e1.2 x z hx hz g1 e) (e2.2 z y hz hy e g2)
 have hK:∀x y,x<N'->y<N'->(KK si' al' N' x y↔KK si al N (io x) (io y)):=fun x y hx hy=>by
  constructor
  ·refine fun hk=>bb (R:=fun x y=>KK si al N (io x) (io y)) a7 cG ⟨fun x hx=>hE.rfl' _ (il x hx),fun x y hx hy e=>hE.symm _ _ (il x hx) (il y hy) e,fun x y z hx hy hz e1 e2=>hE.trans _ _ _ (il x hx) (il y hy) (il z hz) e1 e2⟩ (fun x hx=>?_) (fun x hx=>?_) hx hy hk
   ·rw[es x hx];exact cw hs ha (il x hx)
   ·rw[ea x hx];exact bS hs ha (il x hx)
  ·intro hk;refine(bb hs ha hKR (fun u hu=>⟨DI u hu,fun x y hx hy e1 e2=>?_⟩) (fun u hu=>⟨WE u hu,fun x y hx hy e1 e2=>?_⟩) (il x hx) (il y hy) hk).2 x y hx hy rfl rfl
   ·have:y=si' x:=ii _ _ hy (ls x hx) (by rw[e2,es x hx,e1])
    subst this;exact cw a7 cG hx
   ·have:y=al' x:=ii _ _ hy (la x hx) (by rw[e2,ea x hx,e1])
    subst this;exact bS a7 cG hx
 have mP:∀r,r<N'->∀u,u<N->KK si al N (io r) u->∃x,x<N'/\io x=u:=fun r hr u hu hk=>
  (bb (R:=fun u v=>((∃x,x<N'/\io x=u)↔(∃y,y<N'/\io y=v))) hs ha ⟨fun _ _=>Iff.rfl,fun _ _ _ _ e=>e.symm,fun _ _ _ _ _ _ e1 e2=>e1.trans e2⟩ DI WE (il r hr) hu hk).1 ⟨r,hr,rfl⟩
 have Bz:∀{E E':Nat->Nat->Prop} (_:∀x y,x<N'->y<N'->(E' x y↔E (io x) (io y))) (r:Nat) (l:List Nat),r<N'->Tr N' (KK si' al' N' r) E' l->Tr N (KK si al N (io r)) E (l.map io):=fun {E E'} he r l hr ht=>by
  refine⟨fun u hu=>?_,?_,fun u hu v hv e=>?_,fun u hu hk=>?_⟩
  ·obtain⟨x,hx,rfl⟩:=zzE.1 hu;exact⟨il x (ht.mem x hx).1,(hK r x hr (ht.mem x hx).1).1 (ht.mem x hx).2⟩
  ·rw[List.Nodup,List.pairwise_map];refine List.Pairwise.imp_of_mem ?_ ht.nodup;intro x y hx hy aJ e;exact aJ (ii x y (ht.mem x hx).1 (ht.mem y hy).1 e)
  ·obtain⟨x,hx,rfl⟩:=zzE.1 hu;obtain⟨y,hy,rfl⟩:=zzE.1 hv;rw[ht.apart x hx y hy ((he x y (ht.mem x hx).1 (ht.mem y hy).1).2 e)]
  ·obtain⟨x,hx,rfl⟩:=mP r hr u hu hk;obtain⟨y,h1,h2⟩:=ht.all x hx ((hK r x hr hx).2 hk);exact⟨io y,zzE.2 ⟨y,h1,rfl⟩,(he x y hx (ht.mem y h1).1).1 h2⟩
 refine⟨a7,cG,fun r hr=>?_⟩;have e1:=tD ha (dX hs ha (il r hr)).2;have e2:=tD cG (dX a7 cG hr).2;have e3:cU (KK si al N (io r)) N=cU (KK si' al' N' r) N':=by
  unfold cU;rw[List.countP_eq_length_filter,List.countP_eq_length_filter];have m1:∀u,u∈((List.range N).filter fun x=>decide (KK si al N (io r) x))↔u<N/\KK si al N (io r) u:=fun u=>by simp[List.mem_filter]
  have m2:∀u,u∈((List.range N').filter fun x=>decide (KK si' al' N' r x))↔u<N'/\KK si' al' N' r u:=fun u=>by simp[List.mem_filter]
  refine Nat.le_antisymm ?_ ?_
  ·have pg:∀u,∃x,(u<N/\KK si al N (io r) u)->(x<N'/\io x=u):=fun u=>by
    by_cases hu:u<N/\KK si al N (io r) u
    ·obtain⟨x,h1,h2⟩:=mP r hr u hu.1 hu.2;exact⟨x,fun _=>⟨h1,h2⟩⟩
    ·exact⟨0,fun e=>zzA e hu⟩
   obtain⟨g,hg⟩:=Classical.axiomOfChoice pg;refine A4 _ _ g (List.nodup_range.filter _) (fun u hu=>?_) (fun u hu v hv e=>?_)
   ·have h1:=(m1 u).1 hu;have h2:=hg u h1;exact(m2 _).2 ⟨h2.1,(hK r _ hr h2.1).2 (by rw[h2.2];exact h1.2)⟩
   ·have h1:=hg u ((m1 u).1 hu);have h2:=hg v ((m1 v).1 hv);rw[<-h1.2,<-h2.2,e]
  ·refine A4 _ _ io (List.nodup_range.filter _) (fun x hx=>?_) (fun x hx y hy e=>ii x y ((m2 x).1 hx).1 ((m2 y).1 hy).1 e);have h1:=(m2 x).1 hx;exact(m1 _).2 ⟨il x h1.1,(hK r x hr h1.1).1 h1.2⟩
 constructor
 ·intro h lV lF hV hF;have e0:=h _ _ (Bz Wj r lV hr hV) (Bz sk r lF hr hF);rw[List.length_map,List.length_map]at e0;omega
 ·intro h lV lF hV hF;obtain⟨FG,wH⟩:=Tr.exists (SC.eqv a7) (KK si' al' N' r);obtain⟨Br,wK⟩:=Tr.exists (SC.eqv eO) (KK si' al' N' r);have e0:=h _ _ wH wK;have g1:=hV.bd (SC.eqv hs) (Bz Wj r FG hr wH);have g2:=hF.bd (SC.eqv dL) (Bz sk r Br hr wK);rw[List.length_map]at g1 g2;omega
theorem cb.tf(h:cb N si al)(il:∀x,x<N'->io x<N)(ii:∀x y,x<N'->y<N'->io x=io y->x=y)(ls:∀x,x<N'->si' x<N')(la:∀x,x<N'->al' x<N')
  (es:∀x,x<N'->io (si' x)=si (io x)) (ea:∀x,x<N'->io (al' x)=al (io x)):cb N' si' al':=by
 obtain⟨h1,h2,h3⟩:=Mq h.perm h.aW il ii ls la es ea;exact⟨h1,h2,fun r hr=>(h3 r hr).1 (h.eq (io r) (il r hr))⟩
end
open Classical
def uV(al:Nat->Nat)(u v x:Nat):Nat:=if x=u then al v else if x=v then al u else x
def fN(al:Nat->Nat)(u v:Nat):Nat->Nat:=if al u=v then al else gw al u v
section
variable{N:Nat}{si al:Nat->Nat}
theorem SX(ha:bI N al){u v h:Nat}(hu:u<N)(hv:v<N)(tQ:u≠v)(hh:h<N)(h1:h≠u)(h2:h≠v):fN al u v h=uV al u v (al h):=by
 have ih:=ha.inv h hh;unfold fN uV;by_cases e:al u=v
 ·rw[zM e];have n1:al h≠u:=fun g=>h2 (by rw[<-ih,g,e]);have n2:al h≠v:=fun g=>h1 (by rw[<-ih,g,<-e,ha.inv u hu]);rw[zL n1,zL n2]
 ·rw[zL e];unfold gw;rw[zL h1,zL h2];by_cases g1:h=al u
  ·rw[zM g1,zM (by rw[g1,ha.inv u hu])]
  ·rw[zL g1];have n1:al h≠u:=fun g=>g1 (by rw[<-ih,g]);rw[zL n1];by_cases g2:h=al v
   ·rw[zM g2,zM (by rw[g2,ha.inv v hv])]
   ·rw[zL g2,zL (fun g=>g2 (by rw[<-ih,g]))]
theorem cb.fN(h:cb N si al){u v:Nat}(hu:u<N)(hv:v<N)(tQ:u≠v)(s1:si u=v)(s2:si v=u):cb N si (fN al u v):=by
 unfold Sp.fN;by_cases e:al u=v
 ·rw[zM e];exact h
 ·rw[zL e];exact h.sE hu hv tQ s1 s2 e
end
theorem follow{u1 v1 u2 v2 h:Nat}{al T:Nat->Nat}{O:Nat->Prop}(i:∀x,x=u1\/x=v1\/x=u2\/x=v2\/x=h->al (al x)=x/\al x≠x)(d:u1≠v1/\u1≠u2/\u1≠v2/\v1≠u2/\v1≠v2/\u2≠v2)
  (hh:h≠u1/\h≠v1/\h≠u2/\h≠v2) (T1:T u1=al v1) (T2:T v1=al u1) (T3:T u2=al v2) (T4:T v2=al u2) (TO:∀x,x≠u1->x≠v1->x≠u2->x≠v2->T x=x):
  (if uV al u1 v1 (al h)=u2 then uV al u1 v1 (al v2) else if uV al u1 v1 (al h)=v2 then uV al u1 v1 (al u2) else uV al u1 v1 (al h))=T (T (T (T (T (al h))))):=by
 obtain⟨d1,d2,d3,d4,d5,d6⟩:=d;obtain⟨k1,k2,k3,k4⟩:=hh;have j1:=i u1 (by simp);have j2:=i v1 (by simp);have j3:=i u2 (by simp);have j4:=i v2 (by simp);have j5:=i h (by simp);have inj:∀x y,(x=u1\/x=v1\/x=u2\/x=v2\/x=h)->(y=u1\/y=v1\/y=u2\/y=v2\/y=h)->al x=y->al y=x:=fun x y hx _ e=>by rw[<-e];exact(i x hx).1
 have stay:∀x,x≠u1->x≠v1->x≠u2->x≠v2->T (T (T (T (T x))))=x/\T (T (T (T x)))=x/\T (T (T x))=x:=fun x a1 a2 a3 a4=>by
  have:=TO x a1 a2 a3 a4;simp only[this];simp
 unfold uV;by_cases c1:al h=u1
 ·have b1:al u1=h:=inj h u1 (by simp) (by simp) c1;rw[zM c1,c1,T1];have y1:al v1≠u1:=fun e=>k2 (by rw[<-b1];exact inj v1 u1 (by simp) (by simp) e);have y2:al v1≠v1:=j2.2;by_cases c2:al v1=u2
  ·have b2:al u2=v1:=inj v1 u2 (by simp) (by simp) c2;have z1:al v2≠u1:=fun e=>k4 (by rw[<-b1];exact inj v2 u1 (by simp) (by simp) e);have z2:al v2≠v1:=fun e=>d6 (by rw[<-c2];exact inj v2 v1 (by simp) (by simp) e);have z3:al v2≠u2:=fun e=>d5 (by rw[<-b2];exact inj v2 u2 (by simp) (by simp) e);rw[zM c2,zL z1,zL z2,c2,T3,(stay _ z1 z2 z3 j4.2).2.2]
  ·by_cases c3:al v1=v2
   ·have b2:al v2=v1:=inj v1 v2 (by simp) (by simp) c3;have z1:al u2≠u1:=fun e=>k3 (by rw[<-b1];exact inj u2 u1 (by simp) (by simp) e);have z2:al u2≠v1:=fun e=>d6 (by rw[<-c3];exact(inj u2 v1 (by simp) (by simp) e).symm);have z4:al u2≠v2:=fun e=>d4 (by rw[<-b2];exact inj u2 v2 (by simp) (by simp) e);rw[zL c2,zM c3,zL z1,zL z2,c3,T4,(stay _ z1 z2 j3.2 z4).2.2]
   ·rw[zL c2,zL c3,(stay _ y1 y2 c2 c3).2.1]
 ·rw[zL c1];by_cases jU:al h=v1
  ·have b1:al v1=h:=inj h v1 (by simp) (by simp) jU;rw[zM jU,jU,T2];have y1:al u1≠v1:=fun e=>k1 (by rw[<-b1];exact inj u1 v1 (by simp) (by simp) e);have y2:al u1≠u1:=j1.2;by_cases c2:al u1=u2
   ·have b2:al u2=u1:=inj u1 u2 (by simp) (by simp) c2;have z1:al v2≠v1:=fun e=>k4 (by rw[<-b1];exact inj v2 v1 (by simp) (by simp) e);have z2:al v2≠u1:=fun e=>d6 (by rw[<-c2];exact inj v2 u1 (by simp) (by simp) e);have z3:al v2≠u2:=fun e=>d3 (by rw[<-b2];exact inj v2 u2 (by simp) (by simp) e);rw[zM c2,zL z2,zL z1,c2,T3,(stay _ z2 z1 z3 j4.2).2.2]
   ·by_cases c3:al u1=v2
    ·have b2:al v2=u1:=inj u1 v2 (by simp) (by simp) c3;have z1:al u2≠v1:=fun e=>k3 (by rw[<-b1];exact inj u2 v1 (by simp) (by simp) e);have z2:al u2≠u1:=fun e=>d6 (by rw[<-c3];exact(inj u2 u1 (by simp) (by simp) e).symm);have z4:al u2≠v2:=fun e=>d2 (by rw[<-b2];exact inj u2 v2 (by simp) (by simp) e);rw[zL c2,zM c3,zL z2,zL z1,c3,T4,(stay _ z2 z1 j3.2 z4).2.2]
    ·rw[zL c2,zL c3,(stay _ y2 y1 c2 c3).2.1]
  ·rw[zL jU];by_cases c4:al h=u2
   ·have b1:al u2=h:=inj h u2 (by simp) (by simp) c4;rw[zM c4,c4,T3];have y3:al v2≠u2:=fun e=>k4 (by rw[<-b1];exact inj v2 u2 (by simp) (by simp) e);by_cases c2:al v2=u1
    ·have b2:al u1=v2:=inj v2 u1 (by simp) (by simp) c2;have z1:al v1≠u1:=fun e=>d5 (by rw[<-b2];exact(inj v1 u1 (by simp) (by simp) e).symm);have z3:al v1≠u2:=fun e=>k2 (by rw[<-b1];exact inj v1 u2 (by simp) (by simp) e);have z4:al v1≠v2:=fun e=>d1 (by rw[<-c2];exact inj v1 v2 (by simp) (by simp) e);rw[zM c2,c2,T1,(stay _ z1 j2.2 z3 z4).2.2]
    ·by_cases c3:al v2=v1
     ·have b2:al v1=v2:=inj v2 v1 (by simp) (by simp) c3;have z2:al u1≠v1:=fun e=>d3 (by rw[<-b2];exact(inj u1 v1 (by simp) (by simp) e).symm);have z3:al u1≠u2:=fun e=>k1 (by rw[<-b1];exact inj u1 u2 (by simp) (by simp) e);have z4:al u1≠v2:=fun e=>d1 (by rw[<-c3];exact(inj u1 v2 (by simp) (by simp) e).symm);rw[zL c2,zM c3,c3,T2,(stay _ j1.2 z2 z3 z4).2.2]
     ·rw[zL c2,zL c3,(stay _ c2 c3 y3 j4.2).2.1]
   ·rw[zL c4];by_cases c5:al h=v2
    ·have b1:al v2=h:=inj h v2 (by simp) (by simp) c5;rw[zM c5,c5,T4];have y3:al u2≠v2:=fun e=>k3 (by rw[<-b1];exact inj u2 v2 (by simp) (by simp) e);by_cases c2:al u2=u1
     ·have b2:al u1=u2:=inj u2 u1 (by simp) (by simp) c2;have z1:al v1≠u1:=fun e=>d4 (by rw[<-b2];exact(inj v1 u1 (by simp) (by simp) e).symm);have z3:al v1≠v2:=fun e=>k2 (by rw[<-b1];exact inj v1 v2 (by simp) (by simp) e);have z4:al v1≠u2:=fun e=>d1 (by rw[<-c2];exact inj v1 u2 (by simp) (by simp) e);rw[zM c2,c2,T1,(stay _ z1 j2.2 z4 z3).2.2]
     ·by_cases c3:al u2=v1
      ·have b2:al v1=u2:=inj u2 v1 (by simp) (by simp) c3;have z2:al u1≠v1:=fun e=>d2 (by rw[<-b2];exact(inj u1 v1 (by simp) (by simp) e).symm);have z3:al u1≠v2:=fun e=>k1 (by rw[<-b1];exact inj u1 v2 (by simp) (by simp) e);have z4:al u1≠u2:=fun e=>d1 (by rw[<-c3];exact(inj u1 u2 (by simp) (by simp) e).symm);rw[zL c2,zM c3,c3,T2,(stay _ j1.2 z2 z4 z3).2.2]
      ·rw[zL c2,zL c3,(stay _ c2 c3 j3.2 y3).2.1]
    ·rw[zL c5,(stay _ c1 jU c4 c5).1]
open Classical
theorem bR(l k:List Int)(i:Nat)(h:i<l.length):(l++k).getD i 0=l.getD i 0:=by
 rw[zB,zB,List.getElem?_append_left h]
theorem cL(l k:List Int)(i:Nat)(h:l.length<=i):(l++k).getD i 0=k.getD (i-l.length) 0:=by
 rw[zB,zB,List.getElem?_append_right h]
theorem oJ{E:List Int}{c:Nat}:∀k,(ks E c k).length=4*(if c<k then k-1 else k)/\ ∀x,x<4*(if c<k then k-1 else k)->(ks E c k).getD x 0=q7 E c (if x/4<c then x else x+4)
 |0=>by simp[ks]
 |k+1=>by
  obtain⟨h1,h2⟩:=oJ (E:=E) (c:=c) k;by_cases hk:k=c
  ·have e:ks E c (k+1)=ks E c k:=by simp[ks,hk]
   rw[e,zM (by omega)];rw[zL (by omega)]at h1 h2;exact⟨by omega,fun x hx=>h2 x (by omega)⟩
  ·have e:ks E c (k+1)=ks E c k++[q7 E c (4*k),q7 E c (4*k+1),q7 E c (4*k+2),q7 E c (4*k+3)]:=by simp[ks,Bh,hk]
   rw[e];by_cases gC:c<k
   ·rw[zM gC]at h1 h2;rw[zM (by omega)];refine⟨by simp[h1];omega,fun x hx=>?_⟩;by_cases kf:x<4*(k-1)
    ·rw[bR _ _ _ (by omega)];exact h2 x kf
    ·rw[cL _ _ _ (by omega),h1];have Oy:x=4*(k-1)\/x=4*(k-1)+1\/x=4*(k-1)+2\/x=4*(k-1)+3:=by omega
     rw[zL (by omega)];rcases Oy with rfl|rfl|rfl|rfl
     ·rw[show 4*(k-1)-4*(k-1)=0 by omega,show 4*(k-1)+4=4*k by omega];rfl
     ·rw[show 4*(k-1)+1-4*(k-1)=1 by omega,show 4*(k-1)+1+4=4*k+1 by omega];rfl
     ·rw[show 4*(k-1)+2-4*(k-1)=2 by omega,show 4*(k-1)+2+4=4*k+2 by omega];rfl
     ·rw[show 4*(k-1)+3-4*(k-1)=3 by omega,show 4*(k-1)+3+4=4*k+3 by omega];rfl
   ·rw[zL gC]at h1 h2;rw[zL (by omega)];refine⟨by simp[h1];omega,fun x hx=>?_⟩;by_cases kf:x<4*k
    ·rw[bR _ _ _ (by omega)];exact h2 x kf
    ·rw[cL _ _ _ (by omega),h1];have Oy:x=4*k\/x=4*k+1\/x=4*k+2\/x=4*k+3:=by omega
     rw[zM (by omega)];rcases Oy with rfl|rfl|rfl|rfl
     ·rw[show 4*k-4*k=0 by omega];rfl
     ·rw[show 4*k+1-4*k=1 by omega];rfl
     ·rw[show 4*k+2-4*k=2 by omega];rfl
     ·rw[show 4*k+3-4*k=3 by omega];rfl
theorem jnF(c:Nat):bV false (4*c)=4*c+1/\bV false (4*c+1)=4*c/\bV false (4*c+2)=4*c+3/\bV false (4*c+3)=4*c+2:=by
 unfold bV;simp only[u6,ur];refine⟨?_,?_,?_,?_⟩<;>(split<;>rename_i h<;>simp at h<;>omega)
theorem jnT(c:Nat):bV true (4*c)=4*c+3/\bV true (4*c+1)=4*c+2/\bV true (4*c+2)=4*c+1/\bV true (4*c+3)=4*c:=by
 unfold bV;simp only[u6,ur];refine⟨?_,?_,?_,?_⟩<;>(split<;>rename_i h<;>simp at h<;>omega)
theorem yr(c:Nat):(bV false ((4*c:Nat):Int)).toNat=4*c+1/\(bV false ((4*c+1:Nat):Int)).toNat=4*c/\(bV false ((4*c+2:Nat):Int)).toNat=4*c+3/\(bV false ((4*c+3:Nat):Int)).toNat=4*c+2:=by
 obtain⟨h1,h2,h3,h4⟩:=jnF c;refine⟨?_,?_,?_,?_⟩
 ·rw[show ((4*c:Nat):Int)=4*c by omega,h1];omega
 ·rw[show ((4*c+1:Nat):Int)=4*c+1 by omega,h2];omega
 ·rw[show ((4*c+2:Nat):Int)=4*c+2 by omega,h3];omega
 ·rw[show ((4*c+3:Nat):Int)=4*c+3 by omega,h4];omega
theorem yq(c:Nat):(bV true ((4*c:Nat):Int)).toNat=4*c+3/\(bV true ((4*c+1:Nat):Int)).toNat=4*c+2/\(bV true ((4*c+2:Nat):Int)).toNat=4*c+1/\(bV true ((4*c+3:Nat):Int)).toNat=4*c:=by
 obtain⟨h1,h2,h3,h4⟩:=jnT c;refine⟨?_,?_,?_,?_⟩
 ·rw[show ((4*c:Nat):Int)=4*c by omega,h1];omega
 ·rw[show ((4*c+1:Nat):Int)=4*c+1 by omega,h2];omega
 ·rw[show ((4*c+2:Nat):Int)=4*c+2 by omega,h3];omega
 ·rw[show ((4*c+3:Nat):Int)=4*c+3 by omega,h4];omega
section
variable{m:List Int}{n c:Nat}{b:Bool}
def uC(m:List Int)(b:Bool)(c x:Nat):Nat:=if x/4=c then ae m (bV b x).toNat else x
theorem Lr(h:bm m n)(hc:c<n):∀f x:Nat,x<4*n->fk m b c f x=(aS (uC m b c) f x:Nat)
 |0,x,_=>rfl
 |f+1,x,hx=>by
  simp only[aS];rw[<-A9 (uC m b c) f x];by_cases Dv:x/4=c
  ·have hj:=zn b (x:Int);have hl:(bV b (x:Int)).toNat<4*n:=by omega
   have e1:uC m b c x=ae m (bV b x).toNat:=by unfold uC;rw[zM Dv]
   rw[e1,LO (by omega),<-h.cast hl];exact Lr h hc f _ (h.aW.lt _ hl)
  ·have e1:uC m b c x=x:=by unfold uC;rw[zL Dv]
   rw[e1,<-Lr h hc f x hx,LN (by omega),LN (by omega)]
theorem iW(h:bm m n)(hc:c<n)(gX:qj m n=true):bm (ks (kc m b c (4*n)) c n) (n-1)/\qj (ks (kc m b c (4*n)) c n) (n-1)=true:=by
 have dw:=h.prd.ok.1;have hS:=h.qk.1 gX;have ha:=h.aW;obtain⟨u1,kU⟩:∃u,u=4*c:=⟨_,rfl⟩;obtain⟨u2,ns⟩:∃u,u=4*c+2:=⟨_,rfl⟩;obtain⟨v1,hv1⟩:∃v,v=if b then 4*c+3 else 4*c+1:=⟨_,rfl⟩;obtain⟨v2,JU⟩:∃v,v=if b then 4*c+1 else 4*c+3:=⟨_,rfl⟩;obtain⟨p,hp⟩:∃p,p=if b then 4*c+1 else 4*c:=⟨_,rfl⟩;obtain⟨q,hq⟩:∃q,q=if b then 4*c+3 else 4*c+2:=⟨_,rfl⟩
 have hb:(v1=4*c+3/\v2=4*c+1/\p=4*c+1/\q=4*c+3/\b=true)\/(v1=4*c+1/\v2=4*c+3/\p=4*c/\q=4*c+2/\b=false):=by
  cases b
  ·exact .inr ⟨hv1,JU,hp,hq,rfl⟩
  ·exact .inl ⟨hv1,JU,hp,hq,rfl⟩
 have hS1:=hS.split (p:=p) (q:=q) (by omega) (by omega) (by omega) (iY.2 (by omega));have sj:swp ai p q u1=v1/\swp ai p q v1=u1/\swp ai p q u2=v2/\swp ai p q v2=u2:=by
  unfold swp ai;rcases hb with ⟨e1,e2,e3,e4,_⟩|⟨e1,e2,e3,e4,_⟩<;>subst kU ns e1 e2 e3 e4<;>refine⟨?_,?_,?_,?_⟩<;>(repeat' split)<;>omega
 have so:∀x,x/4≠c->swp ai p q x=ai x:=fun x hx=>by unfold swp;rw[zL (by omega),zL (by omega)]
 have yO:=hS1.fN (u:=u1) (v:=v1) (by omega) (by omega) (by omega) sj.1 sj.2.1;have hS3:=yO.fN (u:=u2) (v:=v2) (by omega) (by omega) (by omega) sj.2.2.1 sj.2.2.2;have f1:∀x,x<4*n->x≠u1->x≠v1->fN (ae m) u1 v1 x=uV (ae m) u1 v1 (ae m x):=fun x hx h1 h2=>SX ha (by omega) (by omega) (by omega) hx h1 h2
 have Gm:∀x,x<4*n->x/4≠c->((fN (fN (ae m) u1 v1) u2 v2 x:Nat):Int)=fk m b c 5 (m.getD x 0):=fun x hx Dv=>by
  have br:=ha.lt x hx;rw[<-h.cast hx,Lr h hc 5 _ br];congr 1;rw[SX yO.aW (by omega) (by omega) (by omega) hx (by omega) (by omega)];rw[f1 x hx (by omega) (by omega)]
  have key:=follow (u1:=u1) (v1:=v1) (u2:=u2) (v2:=v2) (h:=x) (al:=ae m) (T:=uC m b c) (O:=fun _=>True)
   (fun y hy=>⟨ha.inv y (by omega),ha.ne y (by omega)⟩) (by omega) (by omega)
   (by
    unfold uC;rw[zM (by omega)];congr 1;rcases hb with ⟨e1,_,_,_,rfl⟩|⟨e1,_,_,_,rfl⟩
    ·rw[kU,(yq c).1,e1]
    ·rw[kU,(yr c).1,e1])
   (by
    unfold uC;rw[zM (by omega)];congr 1;rcases hb with ⟨e1,_,_,_,rfl⟩|⟨e1,_,_,_,rfl⟩
    ·rw[e1,(yq c).2.2.2,kU]
    ·rw[e1,(yr c).2.1,kU])
   (by
    unfold uC;rw[zM (by omega)];congr 1;rcases hb with ⟨_,e2,_,_,rfl⟩|⟨_,e2,_,_,rfl⟩
    ·rw[ns,(yq c).2.2.1,e2]
    ·rw[ns,(yr c).2.2.1,e2])
   (by
    unfold uC;rw[zM (by omega)];congr 1;rcases hb with ⟨_,e2,_,_,rfl⟩|⟨_,e2,_,_,rfl⟩
    ·rw[e2,(yq c).2.1,ns]
    ·rw[e2,(yr c).2.2.2,ns])
   (fun y h1 h2 h3 h4=>by unfold uC;rw[zL (by omega)])
  show (if uV (ae m) u1 v1 (ae m x)=u2 then fN (ae m) u1 v1 v2 else if uV (ae m) u1 v1 (ae m x)=v2 then fN (ae m) u1 v1 u2 else uV (ae m) u1 v1 (ae m x))=_;rw[f1 v2 (by omega) (by omega) (by omega),f1 u2 (by omega) (by omega) (by omega)];exact key
 obtain⟨wl,wg⟩:=oJ (E:=kc m b c (4*n)) (c:=c) n;rw[zM hc]at wl wg;obtain⟨io,wj⟩:∃io:Nat->Nat,∀x,io x=if x/4<c then x else x+4:=⟨_,fun _=>rfl⟩;have FV:∀x,x<4*(n-1)->io x<4*n/\io x/4≠c:=fun x hx=>by rw[wj];split<;>omega
 have hget:∀x,x<4*(n-1)->∃y:Nat,y<4*n/\y/4≠c/\fN (fN (ae m) u1 v1) u2 v2 (io x)=y/\(ks (kc m b c (4*n)) c n).getD x 0=((if c<y/4 then y-4 else y:Nat):Int):=fun x hx=>by
  have hi:=FV x hx;have e1:=Gm (io x) hi.1 hi.2;have dV:=Ms (b:=b) h.prd hc hi.1 hi.2;have ON:=y2x (b:=b) h.prd hc 5 (m.getD (io x) 0) (by have:=h.prd.ok.2 (io x) hi.1;unfold cE;omega);unfold cE at ON;refine⟨fN (fN (ae m) u1 v1) u2 v2 (io x),by omega,by omega,rfl,?_⟩;rw[wg x hx,<-wj x];have e2:(kc m b c (4*n)).getD (io x) 0=fk m b c 5 (m.getD (io x) 0):=by
   have:∀k,k<=m.length->io x<k->(kc m b c k).getD (io x) 0=fk m b c 5 (m.getD (io x) 0):=fun k=>by
    induction k with
    |zero=>intro _ h;omega
    |succ k ih=>
     intro hk aC;have hl:=RT (m:=m) (b:=b) (c:=c) k;simp only[kc];by_cases hkc:k/4=c
     ·rw[zM hkc]
      have:io x≠k:=fun e=>hi.2 (by rw[e];exact hkc)
      exact ih (by omega) (by omega)
     ·rw[zL hkc];by_cases e:k=io x
      ·rw[<-e,pZ (by omega)]
      ·rw[oH e];exact ih (by omega) (by omega)
   exact this (4*n) (by omega) hi.1
  unfold q7;rw[e2,<-e1];generalize fN (fN (ae m) u1 v1) u2 v2 (io x)=y at*;by_cases hy:c<y/4
  ·rw[zM hy,zM (by omega)];omega
  ·rw[zL hy,zL (by omega)]
 have tZ:∀x,x<4*(n-1)->ae (ks (kc m b c (4*n)) c n) x<4*(n-1)/\io (ae (ks (kc m b c (4*n)) c n) x)=fN (fN (ae m) u1 v1) u2 v2 (io x)/\((ae (ks (kc m b c (4*n)) c n) x:Nat):Int)=(ks (kc m b c (4*n)) c n).getD x 0:=fun x hx=>by
  obtain⟨y,y1,y2,y3,y4⟩:=hget x hx;have e:ae (ks (kc m b c (4*n)) c n) x=if c<y/4 then y-4 else y:=by unfold ae;rw[y4,zD]
  rw[e,y3];refine⟨by split<;>omega,?_,y4.symm⟩;rw[wj];by_cases hy:c<y/4
  ·rw[zM hy,zL (by omega)];omega
  ·rw[zL hy,zM (by omega)]
 have PJ:cb (4*(n-1)) ai (ae (ks (kc m b c (4*n)) c n)):=by
  refine hS3.tf (io:=io) (fun x hx=>(FV x hx).1) (fun x y hx hy e=>?_) (fun x hx=>(aH (n-1)).lt x hx) (fun x hx=>(tZ x hx).1) (fun x hx=>?_) (fun x hx=>(tZ x hx).2.1)
  ·rw[wj,wj]at e;by_cases h1:x/4<c<;>by_cases h2:y/4<c
   ·rw[zM h1,zM h2]at e;exact e
   ·rw[zM h1,zL h2]at e;omega
   ·rw[zL h1,zM h2]at e;omega
   ·rw[zL h1,zL h2]at e;omega
  ·rw[so _ (FV x hx).2,wj,wj,bU];by_cases h1:x/4<c
   ·rw[zM h1,zM h1]
   ·rw[zL h1,zL h1];unfold ai;omega
 have hD:bm (ks (kc m b c (4*n)) c n) (n-1):=by
  refine⟨⟨⟨wl,fun i hi=>?_⟩,fun x hx=>?_⟩,fun x hx e=>?_⟩
  ·have:=tZ i hi;omega
  ·have h1:=tZ x hx;have h2:=PJ.aW.inv x hx;have h3:=tZ _ h1.1;rw[h2]at h3;rw[<-h1.2.2,zD,<-h3.2.2]
  ·have h1:=tZ x hx;exact PJ.aW.ne x hx (by omega)
 exact⟨hD,hD.qk.2 PJ⟩
end
open Classical
structure Gr(G:Type) where
 mul:G->G->G
 one:G
 inv:G->G
 assoc:∀a b c,mul (mul a b) c=mul a (mul b c)
 ol:∀a,mul one a=a
 or':∀a,mul a one=a
 il:∀a,mul (inv a) a=one
 ir:∀a,mul a (inv a)=one
section
variable{G:Type}(P:Gr G){N:Nat}{si al:Nat->Nat}{w g:Nat->G}
theorem Gr.lc{a b c:G}(h:P.mul a b=P.mul a c):b=c:=by
 have:=congrArg (P.mul (P.inv a)) h
 rwa [<-P.assoc,<-P.assoc,P.il,P.ol,P.ol]at this
theorem Gr.rc{a b c:G}(h:P.mul b a=P.mul c a):b=c:=by
 have:=congrArg (fun x=>P.mul x (P.inv a)) h
 simpa only[P.assoc,P.ir,P.or'] using this
structure mZ(N:Nat)(si al:Nat->Nat)(w g:Nat->G):Prop where
 jh:∀x,x<N->g (si (al x))=g x
 edge:∀x,x<N->g (al x)=P.mul (g x) (w x)
theorem Xz{f:Nat->Nat}(hf:bJ N f)(h:∀x,x<N->g (f x)=g x){x y:Nat}(hx:x<N)(hs:SC f x y):g y=g x:=by
 obtain⟨k,rfl⟩:=hs
 induction k with
 |zero=>rfl
 |succ k ih=>simp only[aS];rw[h _ (hf.bW hx k),ih]
theorem Yl(h:cb N si al){p q:Nat}(hp:p<N)(hq:q<N)(dS:p≠q)(iF:SC si p q)(hg:mZ P N (swp si p q) al w g):∃g',mZ P N si al w g':=by
 have hs:=h.perm;have ha:=h.aW;have a7:=sM hs hp hq;have hE:=bH hs ha;have bX:=bH a7 ha;have iT:=ha.lt p hp;have oA:=ha.lt q hq;have dL:=aN hs ha N (zA _);have eO:=aN a7 ha N (zA _);have Kj:al p≠al q:=fun e=>dS (by rw[<-ha.inv p hp,<-ha.inv q hq,e]);have sk:∀x,x<N->swp (aM si al N) (al p) (al q) x=aM (swp si p q) al N x:=fun x hx=>by
  rw[aX ha hx];unfold swp;have i1:=ha.inv x hx;by_cases h1:x=al p
  ·subst h1;rw[zM rfl,ha.inv p hp,zM rfl,aX ha oA,ha.inv q hq]
  ·rw[zL h1];have n1:al x≠p:=fun e=>h1 (by rw[<-e,i1]);by_cases h2:x=al q
   ·subst h2;rw[zM rfl,ha.inv q hq,zL (Ne.symm dS),zM rfl,aX ha iT,ha.inv p hp]
   ·rw[zL h2];have n2:al x≠q:=fun e=>h2 (by rw[<-e,i1]);rw[zL n1,zL n2,aX ha hx]
 have kW:=sM dL iT oA;have fin:∀g',mZ P N (swp si p q) al w g'->g' (al p)=g' (al q)->mZ P N si al w g':=fun g' AB he=>by
  refine⟨fun x hx=>?_,AB.edge⟩;by_cases h1:al x=p
  ·have e:=AB.jh (al q) oA;rw[ha.inv q hq]at e
   have:swp si p q q=si p:=by unfold swp;rw[zL (Ne.symm dS),zM rfl]
   rw[this]at e;rw[h1,e,<-he,<-h1,ha.inv x hx]
  ·by_cases h2:al x=q
   ·have e:=AB.jh (al p) iT;rw[ha.inv p hp]at e
    have:swp si p q p=si q:=by unfold swp;rw[zM rfl]
    rw[this]at e;rw[h2,e,he,<-h2,ha.inv x hx]
   ·have e:=AB.jh x hx;rwa [show swp si p q (al x)=si (al x) by unfold swp;rw[zL h1,zL h2]]at e
 have nL:∀g',mZ P N (swp si p q) al w g'->∀x y,x<N->SC (aM (swp si p q) al N) x y->g' y=g' x:=fun g' AB x y hx mu=>Xz eO (fun z hz=>by rw[aX ha hz];exact AB.jh z hz) hx mu;by_cases hF:SC (aM si al N) (al p) (al q)
 ·--the parts are different components
  have cP:¬SC (aM (swp si p q) al N) (al p) (al q):=fun e=>vf dL iT Kj hF ((uA kW sk iT).2 e);have lr:KK si al N p q:=nU hs ha hp iF;have hnK:¬KK (swp si p q) al N p q:=fun dK=>by
   have F3:=vf hs hp dS iF;have F4:=pT a7 hp hq F3;rw[vc]at F4;obtain⟨lV,hV⟩:=Tr.exists (SC.eqv hs) (KK si al N p);obtain⟨lF,WA⟩:=Tr.exists (SC.eqv dL) (KK si al N p);have heq:=h.eq p hp lV lF hV WA;obtain⟨FG,wH⟩:=Tr.exists (SC.eqv a7) (KK si al N p);obtain⟨Br,wK⟩:=Tr.exists (SC.eqv eO) (KK si al N p);have PI:KK si al N p p:=hE.rfl' _ hp
   have hv1:FG.length=lV.length+1:=wH.join (SC.eqv a7) hp hq PI lr F3 (hV.congr F4);have wJ:KK si al N p (al p):=bS hs ha hp;have wI:KK si al N p (al q):=hE.trans _ _ _ hp hq oA lr (bS hs ha hq);have p8:Tr N (KK si al N p) (SC (swp (aM si al N) (al p) (al q))) Br:=wK.congr fun x y hx _=>(uA kW sk hx).symm;have wa:=vf dL iT Kj hF;have hj:=pT kW iT oA wa
   rw[vc]at hj;have uP:=p8.join (SC.eqv kW) iT oA wJ wI wa (WA.congr hj);have cF:∀x y,x<N->y<N->KK (swp si p q) al N x y->KK si al N x y:=fun x y hx hy hk=>by
    refine bb a7 ha hE (fun x hx=>?_) (fun x hx=>bS hs ha hx) hx hy hk;unfold swp;by_cases h1:x=p
    ·rw[zM h1,h1];exact hE.trans _ _ _ hp hq (hs.lt _ hq) lr (cw hs ha hq)
    ·by_cases h2:x=q
     ·rw[zL h1,zM h2,h2];exact hE.trans _ _ _ hq hp (hs.lt _ hp) (hE.symm _ _ hp hq lr) (cw hs ha hp)
     ·rw[zL h1,zL h2];exact cw hs ha hx
   have vM:∀x y,x<N->y<N->KK si al N x y->KK (swp si p q) al N x y:=fun x y hx hy hk=>by
    refine bb hs ha bX (fun x hx=>?_) (fun x hx=>bS a7 ha hx) hx hy hk;by_cases h1:x=p
    ·have:=cw a7 ha hq
     rw[show swp si p q q=si p by unfold swp;rw[zL (Ne.symm dS),zM rfl]]at this;rw[h1];exact bX.trans _ _ _ hp hq (hs.lt _ hp) dK this
    ·by_cases h2:x=q
     ·have:=cw a7 ha hp
      rw[show swp si p q p=si q by unfold swp;rw[zM rfl]]at this;rw[h2];exact bX.trans _ _ _ hq hp (hs.lt _ hq) (bX.symm _ _ hp hq dK) this
     ·have:=cw a7 ha hx
      rwa [show swp si p q x=si x by unfold swp;rw[zL h1,zL h2]]at this
   have cW:∀x,x<N->(KK si al N p x↔KK (swp si p q) al N p x):=fun x hx=>⟨vM p x hp hx,cF p x hp hx⟩;have e1:=wH.aZ cW (E':=SC (swp si p q)) (fun _ _ _ _ _ _=>Iff.rfl);have e2:=wK.aZ cW (E':=SC (aM (swp si p q) al N)) (fun _ _ _ _ _ _=>Iff.rfl);have e3:eU al (KK si al N p) N=eU al (KK (swp si p q) al N p) N:=xR fun x hx=>by rw[cW x hx]
   have e4:=CH a7 ha hp e1 e2;omega
  refine⟨fun z=>if KK (swp si p q) al N q z then P.mul (P.mul (g (al p)) (P.inv (g (al q)))) (g z) else g z,fin _ ⟨fun x hx=>?_,fun x hx=>?_⟩ ?_⟩
  ·have tb:=ha.lt x hx;have cW:=dX a7 ha hq;have e:KK (swp si p q) al N q (swp si p q (al x))↔KK (swp si p q) al N q x:=by rw[<-cW.1 _ tb,<-cW.2 _ hx]
   by_cases hk:KK (swp si p q) al N q x
   ·rw[zM hk,zM (e.2 hk),hg.jh x hx]
   ·rw[zL hk,zL fun e'=>hk (e.1 e'),hg.jh x hx]
  ·have e:=(dX a7 ha hq).2 x hx
   have:=hg.edge x hx
   by_cases hk:KK (swp si p q) al N q x
   ·rw[zM hk,zM (e.1 hk),this];simp only[P.assoc]
   ·rw[zL hk,zL fun e'=>hk (e.2 e')];exact this
  ·have e1:¬KK (swp si p q) al N q (al p):=fun e=>hnK (bX.symm _ _ hq hp (bX.trans _ _ _ hq iT hp e (bX.symm _ _ hp iT (bS a7 ha hp))));rw[zL e1,zM (bS a7 ha hq),P.assoc,P.il,P.or']
 ·--one jh behind the parting
  refine⟨g,fin g hg ?_⟩;have hj:=pT dL iT oA hF
  have:SC (aM (swp si p q) al N) (al p) (al q):=(uA kW sk iT).1 ((hj _ _ iT oA).2 (.inr (.inl ⟨.refl _ _,.refl _ _⟩)))
  exact(nL g hg _ _ iT this).symm
def Vx(N:Nat)(si:Nat->Nat)(w t:Nat->G):Prop:=∀x,x<N->t (si x)=P.mul (t x) (w x)
noncomputable def lD (N:Nat) (si:Nat->Nat):Nat:=cU (fun x=>si x≠x) N
theorem IC{U W:Nat->Prop}{k:Nat}(h:∀x,x<k->U x->W x):cU U k<=cU W k:=by
 induction k with
 |zero=>simp[cU]
 |succ k ih=>
  rw[tE,tE]
  have:=ih fun x hx=>h x (by omega)
  by_cases h1:U k
  ·rw[zM h1,zM (h k (by omega) h1)];omega
  ·rw[zL h1];omega
theorem K6{U W:Nat->Prop}{k x:Nat}(h:∀x,x<k->U x->W x)(hx:x<k)(h1:¬U x)(h2:W x):cU U k<cU W k:=by
 induction k with
 |zero=>omega
 |succ k ih=>
  rw[tE,tE];by_cases hk:x=k
  ·subst hk
   have:=IC (k:=x) fun y hy=>h y (by omega)
   rw[zL h1,zM h2];omega
  ·have:=ih (fun y hy=>h y (by omega)) (by omega)
   by_cases h3:U k
   ·rw[zM h3,zM (h k (by omega) h3)];omega
   ·rw[zL h3];omega
theorem off(h:cb N si al){t:Nat->G}(ht:Vx P N si w t){x:Nat}(hx:x<N)(hw:w x=P.one):
  ∃si',cb N si' al/\Vx P N si' w t/\si' x=x/\(∀y,y<N->si' y≠y->si y≠y)/\(si x≠x->lD N si'<lD N si)/\(∀g,mZ P N si' al w g->∃g',mZ P N si al w g'):=by
 by_cases e:si x=x
 ·exact⟨si,h,ht,e,fun _ _ h=>h,fun hn=>zzA e hn,fun g hg=>⟨g,hg⟩⟩
 ·obtain⟨k,h0,hk⟩:=h.perm.back hx;obtain⟨j,rfl⟩:∃j,k=j+1:=⟨k-1,by omega⟩;obtain⟨p,hp⟩:∃p,p=aS si j x:=⟨_,rfl⟩;have gq:p<N:=hp▸h.perm.bW hx j;have gX:si p=x:=by rw[hp];exact hk
  have vV:p≠x:=fun e'=>e (by rw[<-e'];exact gX▸e'.symm▸e');have s1:swp si p x p=si x:=by unfold swp;rw[zM rfl]
  have s2:swp si p x x=x:=by unfold swp;rw[zL (Ne.symm vV),zM rfl];exact gX
  have s3:∀y,y≠p->y≠x->swp si p x y=si y:=fun y h1 h2=>by unfold swp;rw[zL h1,zL h2]
  have hm:∀y,y<N->swp si p x y≠y->si y≠y:=fun y hy hn e'=>by
   by_cases h1:y=p
   ·subst h1;rw[gX]at e';exact vV e'.symm
   ·by_cases h2:y=x
    ·exact e (h2▸e')
    ·rw[s3 y h1 h2]at hn;exact hn e'
  refine⟨swp si p x,h.split gq hx vV ⟨1,gX⟩,fun y hy=>?_,s2,hm,fun _=>K6 hm hx (fun hn=>hn s2) e,fun g hg=>Yl P h gq hx vV ⟨1,gX⟩ hg⟩;by_cases h1:y=p
  ·have a1:=ht x hx;have a2:=ht p gq;rw[gX]at a2;rw[h1,s1,a1,hw,P.or',a2]
  ·by_cases h2:y=x
   ·rw[h2,s2,hw,P.or']
   ·rw[s3 y h1 h2];exact ht y hy
theorem leaf(h:cb N si al){a:Nat}(ha:a<N)(h1:∀x,x<N->KK si al N a x->SC (aM si al N) x (al x)):∃x,x<N/\KK si al N a x/\si x=x:=by
 have hs:=h.perm;have hm:=h.aW;have hE:=bH hs hm;have dL:=aN hs hm N (zA _);apply zW;intro cP;have aJ:∀x,x<N->KK si al N a x->si x≠x:=fun x hx hk e=>cP ⟨x,hx,hk,e⟩;have cW:=dX hs hm ha;have dz:∀x,x<N->KK si al N a x->SC (aM si al N) a x:=fun x hx hk=>by
  have:=bb hs hm (R:=fun x y=>(KK si al N a x↔KK si al N a y)/\(KK si al N a x->SC (aM si al N) x y)) ⟨fun x _=>⟨Iff.rfl,fun _=> .refl _ _⟩,fun x y hx hy h=>⟨h.1.symm,fun hk=>(h.2 (h.1.2 hk)).symm dL hx⟩,fun x y z _ _ _ h k=>⟨h.1.trans k.1,fun hk=>(h.2 hk).trans (k.2 (h.1.1 hk))⟩⟩
   (fun x hx=>⟨cW.1 x hx,fun hk=>(h1 x hx hk).trans ⟨1,by show aM si al N (al x)=si x;rw[aX hm (hm.lt x hx),hm.inv x hx]⟩⟩) (fun x hx=>⟨cW.2 x hx,h1 x hx⟩) ha hx hk
  exact this.2 (hE.rfl' _ ha)
 have hF:Tr N (KK si al N a) (SC (aM si al N)) [a]:=by
  refine⟨fun x hx=>?_,by simp,fun x hx y hy _=>?_,fun x hx hk=>⟨a,by simp,(dz x hx hk).symm dL ha⟩⟩
  ·simp at hx;subst hx;exact⟨ha,hE.rfl' _ ha⟩
  ·simp at hx hy;rw[hx,hy]
 obtain⟨lV,hV⟩:=Tr.exists (SC.eqv hs) (KK si al N a);have e1:=h.eq a ha lV [a] hV hF;have e2:=tD hm (U:=KK si al N a) cW.2;have e3:(lV++lV.map si).length<=((List.range N).filter fun x=>decide (KK si al N a x)).length:=by
  refine A4 _ _ id ?_ (fun x hx=>?_) (fun x _ y _ e=>e)
  ·rw[List.nodup_append];refine⟨hV.nodup,?_,?_⟩
   ·rw[List.Nodup,List.pairwise_map];refine List.Pairwise.imp_of_mem ?_ hV.nodup;intro x y hx hy mu e;exact mu (hs.inj _ _ (hV.mem x hx).1 (hV.mem y hy).1 e)
   ·intro x hx y hy e;obtain⟨z,hz,rfl⟩:=zzE.1 hy
    have:=hV.apart z hz x hx ⟨1,e.symm⟩
    rw[this]at e;exact aJ x (hV.mem x hx).1 (hV.mem x hx).2 e.symm
  ·rw[List.mem_filter,zK,decide_eq_true_eq];rcases List.mem_append.1 hx with hx|hx
   ·exact hV.mem x hx
   ·obtain⟨z,hz,rfl⟩:=zzE.1 hx;exact⟨hs.lt _ (hV.mem z hz).1,(cW.1 z (hV.mem z hz).1).1 (hV.mem z hz).2⟩
 have e4:cU (KK si al N a) N=((List.range N).filter fun x=>decide (KK si al N a x)).length:=by unfold cU;rw[List.countP_eq_length_filter]
 rw[zG,List.length_map]at e3;simp at e1;omega
theorem G2{hh:Nat->G}(hf:∀x,x<N->hh (si (al x))=hh x)(hg:mZ P N si al (fun x=>P.mul (P.mul (hh x) (w x)) (P.inv (hh (al x)))) g):mZ P N si al w fun x=>P.mul (g x) (hh x):=by
 refine⟨fun x hx=>?_,fun x hx=>?_⟩
 ·show P.mul (g (si (al x))) (hh (si (al x)))=_;rw[hg.jh x hx,hf x hx]
 ·show P.mul (g (al x)) (hh (al x))=_;rw[hg.edge x hx];simp only[P.assoc,P.il,P.or']
theorem cb.N6:∀(m:Nat) {si:Nat->Nat} {w t:Nat->G},cb N si al->lD N si<=m->(∀x,x<N->w (al x)=P.inv (w x))->Vx P N si w t->∃g,mZ P N si al w g:=fun m=>by
 induction m with
 |zero=>
  intro si w t h hm hw ht;have tW:∀x,x<N->si x=x:=fun x hx=>by
   apply zW;intro hn
   have:=K6 (U:=fun _=>False) (W:=fun x=>si x≠x) (fun _ _ h=>h.elim) hx (fun h=>h) hn
   unfold lD at hm;omega
  have h1:∀x,x<N->w x=P.one:=fun x hx=>by
   have:=ht x hx
   rw[tW x hx]at this;exact(P.lc (a:=t x) (by rw[P.or'];exact this)).symm
  exact⟨fun _=>P.one,fun _ _=>rfl,fun x hx=>by rw[h1 x hx,P.or']⟩
 |succ m ih=>
  intro si w t h hm hw ht;have hs:=h.perm;have ha:=h.aW;have dL:=aN hs ha N (zA _);have inv1:P.inv P.one=P.one:=by have:=P.ol (P.inv P.one);rw[<-this,P.ir]
  have Hw:∀(w t:Nat->G) (x:Nat),(∀x,x<N->w (al x)=P.inv (w x))->Vx P N si w t->x<N->(si x≠x\/si (al x)≠al x)->w x=P.one->∃g,mZ P N si al w g:=fun w t x hw ht hx hn h1=>by
   obtain⟨Vs,a1,a2,a3,a4,a5,a6⟩:=off P h ht hx h1;obtain⟨si2,b1,b2,b3,b4,b5,b6⟩:=off P a1 a2 (ha.lt x hx) (by rw[hw x hx,h1,inv1])
   have:lD N si2<=m:=by
    by_cases e:si x=x
    ·have Pb:=hn.resolve_left (fun hn=>hn e);by_cases e1:Vs (al x)=al x
     ·have:lD N Vs<lD N si:=by
       exact K6 a4 (ha.lt x hx) (fun hn=>hn e1) Pb
      have:=IC b4
      unfold lD at*;omega
     ·have:=b5 e1
      have:=IC a4
      unfold lD at*;omega
    ·have:=a5 e
     have:=IC b4
     unfold lD at*;omega
   obtain⟨g,hg⟩:=ih b1 this hw b2;obtain⟨g',AB⟩:=b6 g hg;exact a6 g' AB
  by_cases hact:∃a,a<N/\si a≠a
  ·obtain⟨a,br,Ki⟩:=hact;by_cases hd:∃x,x<N/\(si x≠x\/si (al x)≠al x)/\ ¬SC (aM si al N) x (al x)
   ·obtain⟨x,hx,hn,hd⟩:=hd;let hh:Nat->G:=fun y=>if SC (aM si al N) x y then P.inv (w x) else P.one
    have hf:∀y,y<N->hh (si (al y))=hh y:=fun y hy=>by
     have e:SC (aM si al N) x (si (al y))↔SC (aM si al N) x y:=by
      have st:SC (aM si al N) y (si (al y)):=⟨1,aX ha hy⟩;exact⟨fun k=>k.trans (st.symm dL hy),fun k=>k.trans st⟩
     show (if _ then _ else _)=if _ then _ else _;by_cases c:SC (aM si al N) x y
     ·rw[zM c,zM (e.2 c)]
     ·rw[zL c,zL fun c'=>c (e.1 c')]
    have k1:∀y,y<N->P.mul (P.mul (hh (al y)) (w (al y))) (P.inv (hh (al (al y))))=P.inv (P.mul (P.mul (hh y) (w y)) (P.inv (hh (al y)))):=fun y hy=>by
     rw[ha.inv y hy,hw y hy];refine P.rc (a:=P.mul (P.mul (hh y) (w y)) (P.inv (hh (al y)))) ?_;rw[P.il];simp only[P.assoc];rw[<-P.assoc (P.inv (hh y)),P.il,P.ol,<-P.assoc (P.inv (w y)),P.il,P.ol,P.ir]
    have k2:Vx P N si (fun y=>P.mul (P.mul (hh y) (w y)) (P.inv (hh (al y)))) (fun y=>P.mul (t y) (P.inv (hh y))):=fun y hy=>by
     show P.mul (t (si y)) (P.inv (hh (si y)))=P.mul (P.mul (t y) (P.inv (hh y))) (P.mul (P.mul (hh y) (w y)) (P.inv (hh (al y))));have e:=hf (al y) (ha.lt y hy);rw[ha.inv y hy]at e;rw[e,ht y hy];simp only[P.assoc];rw[<-P.assoc (P.inv (hh y)),P.il,P.ol]
    have k3:P.mul (P.mul (hh x) (w x)) (P.inv (hh (al x)))=P.one:=by
     show P.mul (P.mul (if _ then _ else _) (w x)) (P.inv (if _ then _ else _))=_;rw[zM (.refl _ _),zL hd,P.il,inv1,P.or']
    obtain⟨g,hg⟩:=Hw (fun y=>P.mul (P.mul (hh y) (w y)) (P.inv (hh (al y)))) (fun y=>P.mul (t y) (P.inv (hh y))) x k1 k2 hx hn k3;exact⟨_,G2 P hf hg⟩
   ·--one jh:there is an end alone at its NC
    have er:∀x,x<N->(si x≠x\/si (al x)≠al x)->SC (aM si al N) x (al x):=fun x hx hn=>zW fun e=>hd ⟨x,hx,hn,e⟩;have cW:=dX hs ha br;have kz:∀x,x<N->KK si al N a x->(si x≠x\/si (al x)≠al x):=fun x hx hk=>by
     apply zW;intro hn;have n1:si x=x:=zW fun e=>hn (.inl e);have n2:si (al x)=al x:=zW fun e=>hn (.inr e)
     have:=bb hs ha (R:=fun u v=>(u=x\/u=al x)↔(v=x\/v=al x)) ⟨fun _ _=>Iff.rfl,fun _ _ _ _ h=>h.symm,fun _ _ _ _ _ _ h k=>h.trans k⟩ (fun u hu=>?_) (fun u hu=>?_) br hx hk
     ·rcases this.2 (.inl rfl) with e|e
      ·exact Ki (e▸n1)
      ·exact Ki (e▸n2)
     ·constructor
      ·rintro (e|e)
       ·rw[e,n1];exact .inl rfl
       ·rw[e,n2];exact .inr rfl
      ·rintro (e|e)
       ·exact .inl (hs.inj _ _ hu hx (by rw[e,n1]))
       ·exact .inr (hs.inj _ _ hu (ha.lt x hx) (by rw[e,n2]))
     ·constructor
      ·rintro (e|e)
       ·rw[e];exact .inr rfl
       ·rw[e,ha.inv x hx];exact .inl rfl
      ·rintro (e|e)
       ·right;rw[<-e,ha.inv u hu]
       ·left;have:=congrArg al e;rwa [ha.inv u hu,ha.inv x hx]at this
    obtain⟨x,hx,hk,e⟩:=leaf h br fun x hx hk=>er x hx (kz x hx hk);refine Hw w t x hw ht hx (kz x hx hk) ?_
    have:=ht x hx
    rw[e]at this;exact(P.lc (a:=t x) (by rw[P.or'];exact this)).symm
  ·have tW:∀x,x<N->si x=x:=fun x hx=>zW fun hn=>hact ⟨x,hx,hn⟩;refine ih h ?_ hw ht
   have:lD N si=0:=by
    unfold lD cU;rw[List.countP_eq_zero];intro x hx;simp[tW x (zK.1 hx)]
   omega
end
end Sp
theorem U4(k:Nat):bV true ((4*k:Nat):Int)=((4*k+3:Nat):Int)/\bV true ((4*k+1:Nat):Int)=((4*k+2:Nat):Int)/\bV true ((4*k+2:Nat):Int)=((4*k+1:Nat):Int)/\bV true ((4*k+3:Nat):Int)=((4*k:Nat):Int)/\
  bV false ((4*k:Nat):Int)=((4*k+1:Nat):Int)/\bV false ((4*k+1:Nat):Int)=((4*k:Nat):Int)/\bV false ((4*k+2:Nat):Int)=((4*k+3:Nat):Int)/\bV false ((4*k+3:Nat):Int)=((4*k+2:Nat):Int):=by
 have o:∀x:Int,x % 2=1->bV true x=x-x % 4+(x % 4+5)% 4/\bV false x=x-x % 4+(x % 4+3)% 4:=fun x h=>by
  unfold bV;rw[u6,ur,decide_eq_true h];exact⟨zM rfl,zL (by simp)⟩
 have e:∀x:Int,¬x % 2=1->bV true x=x-x % 4+(x % 4+3)% 4/\bV false x=x-x % 4+(x % 4+5)% 4:=fun x h=>by
  unfold bV;rw[u6,ur,decide_eq_false h];exact⟨zL (by simp),zM rfl⟩
 rw[(e _ (by omega)).1,(o _ (by omega)).1,(e _ (by omega)).1,(o _ (by omega)).1,(e _ (by omega)).2,(o _ (by omega)).2,(e _ (by omega)).2,(o _ (by omega)).2];omega
theorem Ev{m:List Int}{n:Nat}(hp:rI m n)(yB:∀x:Nat,x<4*n->m.getD (m.getD x 0).toNat 0=x)(yC:∀x:Nat,x<4*n->m.getD x 0≠x)(ch:Nat->Bool):Inv2 n (fun x=>m.getD x.toNat 0) (fun x=>bV (ch (x/4).toNat) x):=by
 have dw:=hp.1;refine⟨fun x hx=>?_,fun x hx=>?_,fun x hx=>?_,fun x hx=>?_,fun x hx=>?_,fun x _=>Z0 _ x⟩
 ·unfold cE at*
  have:=hp.2 x.toNat (by omega)
  omega
 ·unfold cE at*;have h1:=zn (ch (x/4).toNat) x;omega
 ·unfold cE at hx
  have:=yB x.toNat (by omega)
  show m.getD (m.getD x.toNat 0).toNat 0=x;rw[this];omega
 ·show bV (ch (bV (ch (x/4).toNat) x/4).toNat) (bV (ch (x/4).toNat) x)=x;rw[zn,IE]
 ·unfold cE at hx
  have:=yC x.toNat (by omega)
  show m.getD x.toNat 0≠x;omega
section
variable{n:Nat}{mt jn:Int->Int}{R:List Int}
theorem MS(hi:Inv2 n mt jn)(hR:nT R (4*n))(h1:∀x y:Nat,x<4*n->y<4*n->R.getD x 0=R.getD y 0->fj mt jn x y){g h:Nat}(hg:g<4*n)(hh:h<4*n)(Gw:fj mt jn g h):
  ∀x y:Nat,x<4*n->y<4*n->(iL R g h).getD x 0=(iL R g h).getD y 0->fj mt jn x y:=by
 intro x y hx hy e;have ir:∀z:Nat,z<4*n->cE n (z:Int):=fun z hz=>by unfold cE;omega
 rw[pU hR.len hx,pU hR.len hy]at e;by_cases c1:R.getD x 0=R.getD g 0
 ·rw[zM c1]at e;by_cases c2:R.getD y 0=R.getD g 0
  ·exact h1 x y hx hy (c1.trans c2.symm)
  ·rw[zL c2]at e;exact((h1 x g hx hg c1).trans Gw).trans (h1 h y hh hy e)
 ·rw[zL c1]at e;by_cases c2:R.getD y 0=R.getD g 0
  ·rw[zM c2]at e;exact((h1 x h hx hh e).trans (Gw.symm hi (ir g hg))).trans (h1 g y hg hy c2.symm)
  ·rw[zL c2]at e;exact h1 x y hx hy e
end
section
variable{m:List Int}{n:Nat}{ch:Nat->Bool}
theorem SW(hp:rI m n)(hi:Inv2 n (fun x=>m.getD x.toNat 0) (fun x=>bV (ch (x/4).toNat) x)):∀k,k<=4*n->nT (ke m k) (4*n)/\
  (∀x y:Nat,x<4*n->y<4*n->(ke m k).getD x 0=(ke m k).getD y 0->fj (fun x=>m.getD x.toNat 0) (fun x=>bV (ch (x/4).toNat) x) x y)/\
  (∀x:Nat,x<k->(x:Int)<m.getD x 0->(ke m k).getD (m.getD x 0).toNat 0=(ke m k).getD x 0)
 |0,_=>by
  have dw:=hp.1;have hu:=(UF.init (4*n)).rep;refine⟨by simp only[ke,dw];exact hu,fun x y hx hy e=>?_,fun x hx=>by omega⟩
  have:(x:Int)=y:=by simpa [ke,dw,hx,hy] using e
  have:x=y:=by omega
  subst this;exact .refl _
 |k+1,hk=>by
  obtain⟨i1,i2,i3⟩:=SW hp hi k (by omega);have dw:=hp.1;have xz:=hp.2 k (by omega);by_cases aC:(k:Int)<m.getD k 0
  ·have e:ke m (k+1)=iL (ke m k) k (m.getD k 0).toNat:=by simp only[ke,zM aC]
   rw[e];have hy:(m.getD k 0).toNat<4*n:=by omega
   have hc:fj (fun x=>m.getD x.toNat 0) (fun x=>bV (ch (x/4).toNat) x) (k:Int) ((m.getD k 0).toNat:Int):=by
    have:=fj.mate (mt:=fun x=>m.getD x.toNat 0) (jn:=fun x=>bV (ch (x/4).toNat) x) (fj.refl (k:Int))
    simp only[zD]at this;rw[show ((m.getD k 0).toNat:Int)=m.getD k 0 by omega];exact this
   refine⟨Jh i1 (by omega) hy,MS hi i1 i2 (by omega) hy hc,fun x hx J9=>?_⟩;by_cases ex:x=k
   ·subst ex;exact(Nc i1.len (by omega) hy).symm
   ·have uL:=hp.2 x (by omega);exact C5 i1.len (by omega) (by omega) (i3 x (by omega) J9)
  ·have e:ke m (k+1)=ke m k:=by simp only[ke,zL aC]
   rw[e];refine⟨i1,i2,fun x hx J9=>?_⟩;by_cases ex:x=k
   ·subst ex;exact zzA J9 aC
   ·exact i3 x (by omega) J9
theorem SV(hp:rI m n)(yB:∀x:Nat,x<4*n->m.getD (m.getD x 0).toNat 0=x)(yC:∀x:Nat,x<4*n->m.getD x 0≠x):∀k,k<=n->nT (ff m ch k) (4*n)/\
  (∀x y:Nat,x<4*n->y<4*n->(ff m ch k).getD x 0=(ff m ch k).getD y 0->fj (fun x=>m.getD x.toNat 0) (fun x=>bV (ch (x/4).toNat) x) x y)/\
  (∀x:Nat,x<4*n->(ff m ch k).getD (m.getD x 0).toNat 0=(ff m ch k).getD x 0)/\
  (∀x:Nat,x<4*k->(ff m ch k).getD (bV (ch (x/4)) x).toNat 0=(ff m ch k).getD x 0)
 |0,_=>by
  have hi:=Ev hp yB yC ch;have dw:=hp.1;obtain⟨i1,i2,i3⟩:=SW (ch:=ch) hp hi (4*n) (zA _);simp only[ff,dw];refine⟨i1,i2,fun x hx=>?_,fun x hx=>by omega⟩;have xz:=hp.2 x (by omega);have aJ:=yC x hx;by_cases aC:(x:Int)<m.getD x 0
  ·exact i3 x hx aC
  ·have h2:=yB x hx
   have:=i3 (m.getD x 0).toNat (by omega) (by rw[h2];omega)
   rw[h2,zD]at this;exact this.symm
 |k+1,hk=>by
  have hi:=Ev hp yB yC ch;have dw:=hp.1;obtain⟨i1,i2,i3,i4⟩:=SV hp yB yC k (by omega);have Gu:∀x:Nat,fj (fun x=>m.getD x.toNat 0) (fun x=>bV (ch (x/4).toNat) x) (x:Int) (bV (ch (x/4)) x):=fun x=>by
   have:=fj.join (mt:=fun x=>m.getD x.toNat 0) (jn:=fun x=>bV (ch (x/4).toNat) x) (fj.refl (x:Int))
   rw[show ((x:Int)/4).toNat=x/4 by omega]at this;exact this
  have gen:∀a b c d:Nat,a<4*n->b<4*n->c<4*n->d<4*n->bV (ch (a/4)) a=b->bV (ch (c/4)) c=d->(∀x:Nat,x/4=k->(x=a\/x=b\/x=c\/x=d))->bV (ch (b/4)) b=a->bV (ch (d/4)) d=c->
   ff m ch (k+1)=iL (iL (ff m ch k) a b) c d->nT (ff m ch (k+1)) (4*n)/\
   (∀x y:Nat,x<4*n->y<4*n->(ff m ch (k+1)).getD x 0=(ff m ch (k+1)).getD y 0->fj (fun x=>m.getD x.toNat 0) (fun x=>bV (ch (x/4).toNat) x) x y)/\
   (∀x:Nat,x<4*n->(ff m ch (k+1)).getD (m.getD x 0).toNat 0=(ff m ch (k+1)).getD x 0)/\
   (∀x:Nat,x<4*(k+1)->(ff m ch (k+1)).getD (bV (ch (x/4)) x).toNat 0=(ff m ch (k+1)).getD x 0):=by
   intro a b c d ha hb hc hd e1 e2 Wd e3 e4 eM;rw[eM];have r1:=Jh i1 ha hb;have c1:=MS hi i1 i2 ha hb (by rw[<-e1];exact Gu a);refine⟨Jh r1 hc hd,MS hi r1 c1 hc hd (by rw[<-e2];exact Gu c),fun x hx=>?_,fun x hx=>?_⟩
   ·have xz:=hp.2 x (by omega);exact C5 r1.len (by omega) hx (C5 i1.len (by omega) hx (i3 x hx))
   ·by_cases hxk:x/4=k
    ·have p1:=C5 r1.len (g:=c) (h:=d) ha hb (Nc i1.len ha hb);have p2:=Nc (N:=4*n) (R:=iL (ff m ch k) a b) r1.len hc hd;rcases Wd x hxk with rfl|rfl|rfl|rfl
     ·rw[e1,zD];exact p1.symm
     ·rw[e3,zD];exact p1
     ·rw[e2,zD];exact p2.symm
     ·rw[e4,zD];exact p2
    ·have hj:=zn (ch (x/4)) x;exact C5 r1.len (by omega) (by omega) (C5 i1.len (by omega) (by omega) (i4 x (by omega)))
  have d0:(4*k)/4=k:=by omega
  have d1:(4*k+1)/4=k:=by omega
  have d2:(4*k+2)/4=k:=by omega
  have d3:(4*k+3)/4=k:=by omega
  obtain⟨t0,t1,t2,t3,f0,f1,f2,f3⟩:=U4 k;cases pg:ch k with
  |true=>
   exact gen (4*k+1) (4*k+2) (4*k+3) (4*k) (by omega) (by omega) (by omega) (by omega) (by rw[d1,pg];exact t1) (by rw[d3,pg];exact t3) (fun x hx=>by omega) (by rw[d2,pg];exact t2) (by rw[d0,pg];exact t0) (by simp only[ff,pg,if_true])
  |false=>
   exact gen (4*k) (4*k+1) (4*k+2) (4*k+3) (by omega) (by omega) (by omega) (by omega) (by rw[d0,pg];exact f0) (by rw[d2,pg];exact f2) (fun x hx=>by omega) (by rw[d1,pg];exact f1) (by rw[d3,pg];exact f3) (by simp only[ff,pg];rfl)
theorem K5(hp:rI m n)(yB:∀x:Nat,x<4*n->m.getD (m.getD x 0).toNat 0=x)(yC:∀x:Nat,x<4*n->m.getD x 0≠x):sJ n (fun x=>m.getD x.toNat 0) (fun x=>bV (ch (x/4).toNat) x) (ff m ch n):=by
 obtain⟨i1,i2,i3,i4⟩:=SV (ch:=ch) hp yB yC n (zA _);refine sJ.of (Ev hp yB yC ch) i1 i2 (fun x hx=>by simp only[zD];exact i3 x hx) (fun x hx=>?_)
 have:=i4 x hx
 rw[show ((x:Int)/4).toNat=x/4 by omega];exact this
end
def sm(f:Nat->Int):Nat->Int
 |0=>0
 |n+1=>sm f n+f n
theorem oI{f g:Nat->Int}:∀{n:Nat},(∀x,x<n->f x=g x)->sm f n=sm g n
 |0,_=>rfl
 |n+1,h=>by simp only[sm];rw[oI fun x hx=>h x (by omega),h n (by omega)]
theorem xM(f g:Nat->Int):∀n,sm (fun x=>f x+g x) n=sm f n+sm g n
 |0=>rfl
 |n+1=>by simp only[sm];rw[xM f g n];omega
theorem Lp(c:Int)(f:Nat->Int):∀n,sm (fun x=>c*f x) n=c*sm f n
 |0=>by simp[sm]
 |n+1=>by simp only[sm];rw[Lp c f n,Int.mul_add]
theorem xf(c:Int):∀n:Nat,sm (fun _=>c) n=c*n
 |0=>by simp[sm]
 |n+1=>by simp only[sm];rw[xf c n,Int.natCast_add,Int.mul_add];simp
theorem D4{f g:Nat->Int}:∀{n:Nat},(∀x,x<n->f x<=g x)->sm f n<=sm g n
 |0,_=>Int.le_refl _
 |n+1,h=>by
  simp only[sm]
  have:=D4 (n:=n) fun x hx=>h x (by omega)
  have:=h n (by omega)
  omega
theorem SU(f:Nat->Int)(a:Nat):∀b,sm f (a+b)=sm f a+sm (fun x=>f (a+x)) b
 |0=>by simp[sm]
 |b+1=>by rw[<-Nat.add_assoc];simp only[sm];rw[SU f a b];omega
theorem LK(f:Nat->Int):∀n,sm f n=((List.range n).map f).sum
 |0=>rfl
 |n+1=>by rw[List.range_succ,List.map_append,List.sum_append_int,<-LK f n];simp[sm]
theorem y20{l k:List Int}(h:l.Perm k):l.sum=k.sum:=by
 induction h with
 |nil=>rfl
 |cons x _ ih=>simp only[List.sum_cons,ih]
 |swap x y l=>simp only[List.sum_cons];omega
 |trans _ _ h1 h2=>rw[h1,h2]
theorem Np{l:List Nat}{f:Nat->Nat}(h:∀x∈l,∀y∈l,f x=f y->x=y)(hn:l.Nodup):(l.map f).Nodup:=by
 rw[List.nodup_iff_pairwise_ne,List.pairwise_map];exact List.Pairwise.imp_of_mem (fun ha hb aJ e=>aJ (h _ ha _ hb e)) (List.nodup_iff_pairwise_ne.1 hn)
theorem IB(f:Nat->Int){N:Nat}(g:Nat->Nat)(hr:∀x,x<N->g x<N)(hi:∀x y,x<N->y<N->g x=g y->x=y):sm (fun x=>f (g x)) N=sm f N:=by
 have hn:((List.range N).map g).Nodup:=Np (fun x hx y hy=>hi x y (zK.1 hx) (zK.1 hy)) List.nodup_range;have hp:((List.range N).map g).Perm (List.range N):=by
  have hle:=Nv (l:=List.range N) (k:=(List.range N).map g) List.nodup_range;refine(List.perm_ext_iff_of_nodup hn List.nodup_range).2 fun a=>⟨fun h=>?_,fun h=>?_⟩
  ·obtain⟨x,hx,rfl⟩:=zzE.1 h;exact zK.2 (hr x (zK.1 hx))
  ·by_cases hm:a∈(List.range N).map g
   ·exact hm
   ·exfalso;have h2:=Nv (l:=a::(List.range N).map g) (k:=List.range N) (List.nodup_cons.2 ⟨hm,hn⟩) (fun y hy=>by
     rcases zzD.1 hy with rfl|hy
     ·exact h
     ·obtain⟨x,hx,rfl⟩:=zzE.1 hy;exact zK.2 (hr x (zK.1 hx)))
    simp at h2;omega
 rw[LK,LK]
 have:=y20 (hp.map f)
 rw[List.map_map]at this;exact this
theorem Tz(p:Nat->Bool):∀n,((List.range n).countP p:Int)=sm (fun x=>if p x then 1 else 0) n
 |0=>rfl
 |n+1=>by
  rw[List.range_succ,List.countP_append,Int.natCast_add,Tz p n];simp only[sm,List.countP_cons,List.countP_nil]
  split<;>simp
theorem SS{n:Nat}{mt jn:Int->Int}{R:List Int}(hi:Inv2 n mt jn)(hR:sJ n mt jn R):4*(roots R:Int)<=4*n+sm (fun x=>if mt x=jn x then 1 else 0) (4*n):=by
 let p:Nat->Int:=fun x=>if (R.getD x 0==(x:Int))=true then 1 else 0
 have BD:(roots R:Int)=sm p (4*n):=by
  unfold roots;rw[Tz,hR.rep.len]
 have ir:∀x:Nat,x<4*n->cE n (x:Int):=fun x hx=>by unfold cE;omega
 have mr:∀x:Nat,x<4*n->(mt x).toNat<4*n/\((mt x).toNat:Int)=mt x:=fun x hx=>by have:=hi.mr x (ir x hx);unfold cE at this;omega
 have jr:∀x:Nat,x<4*n->(jn x).toNat<4*n/\((jn x).toNat:Int)=jn x:=fun x hx=>by have:=hi.jr x (ir x hx);unfold cE at this;omega
 have s1:sm (fun x=>p (mt x).toNat) (4*n)=sm p (4*n):=IB p (fun x=>(mt x).toNat) (fun x hx=>(mr x hx).1) (fun x y hx hy e=>by
  have h1:=hi.mm x (ir x hx);have h2:=hi.mm y (ir y hy)
  have:=mr x hx
  have:=mr y hy
  rw[show mt x=mt y by omega,h2]at h1;omega)
 have s2:sm (fun x=>p (jn x).toNat) (4*n)=sm p (4*n):=IB p (fun x=>(jn x).toNat) (fun x hx=>(jr x hx).1) (fun x y hx hy e=>by
  have h1:=hi.jj x (ir x hx);have h2:=hi.jj y (ir y hy)
  have:=jr x hx
  have:=jr y hy
  rw[show jn x=jn y by omega,h2]at h1;omega)
 have s3:sm (fun x=>p (jn ((mt x).toNat:Int)).toNat) (4*n)=sm p (4*n):=by
  rw[<-s2];exact IB (fun x=>p (jn x).toNat) (fun x=>(mt x).toNat) (fun x hx=>(mr x hx).1) (fun x y hx hy e=>by
   have h1:=hi.mm x (ir x hx);have h2:=hi.mm y (ir y hy)
   have:=mr x hx
   have:=mr y hy
   rw[show mt x=mt y by omega,h2]at h1;omega)
 have key:4*sm p (4*n)=sm (fun x=>p x+p (mt x).toNat+(p (jn x).toNat+p (jn ((mt x).toNat:Int)).toNat)) (4*n):=by
  rw[xM,xM,xM,s1,s2,s3];omega
 have JE:∀x,p x=0\/p x=1:=fun x=>by show (if _ then _ else _)=_\/(if _ then _ else _)=_;split<;>simp
 have one:∀x y:Nat,x<4*n->y<4*n->fj mt jn x y->x≠y->p x+p y<=1:=fun x y hx hy hc aJ=>by
  have e:=(hR.iff x y hx hy).2 hc;show (if _ then _ else _)+(if _ then _ else _)<=_;by_cases vK:(R.getD x 0==(x:Int))=true
  ·have V8:¬(R.getD y 0==(y:Int))=true:=fun h=>by
    simp only[beq_iff_eq]at vK h;omega
   rw[zL V8];split<;>omega
  ·rw[zL vK];split<;>omega
 have e1:sm (fun x=>p x+p (mt x).toNat+(p (jn x).toNat+p (jn ((mt x).toNat:Int)).toNat)) (4*n)<=sm (fun x=>1+(if mt x=jn x then 1 else 0)) (4*n):=by
  refine D4 fun x hx=>?_;have hM:=mr x hx;have hJ:=jr x hx;have B9:=jr (mt x).toNat hM.1;rw[hM.2]at B9;simp only[hM.2];have cM:fj mt jn x (mt x):= .mate (.refl _);have cJ:fj mt jn x (jn x):= .join (.refl _);have Xs:fj mt jn x (jn (mt x)):= .join (.mate (.refl _));have jb:=ir x hx;have Av:=hi.mr _ jb;have nM:=hi.mf _ jb;have nJ:=hi.jf _ jb;have nJM:=hi.jf _ Av
  have a1:=one x (mt x).toNat hx hM.1 (by rw[hM.2];exact cM) (by omega);have a2:=one x (jn x).toNat hx hJ.1 (by rw[hJ.2];exact cJ) (by omega);by_cases e:mt x=jn x
  ·rw[zM e,show jn (mt x)=x by rw[e];exact hi.jj _ jb,zD,e];rw[e]at a1;omega
  ·rw[zL e];have n1:jn (mt x)≠x:=fun h=>e (by rw[<-hi.jj _ Av,h]);have n2:jn (mt x)≠jn x:=fun h=>nM (by rw[<-hi.jj _ Av,h,hi.jj _ jb]);have a3:=one x (jn (mt x)).toNat hx B9.1 (by rw[B9.2];exact Xs) (by omega);have sy:fj mt jn (mt x) (jn x):=(cM.symm hi jb).trans cJ;have a4:=one (mt x).toNat (jn x).toNat hM.1 hJ.1 (by rw[hM.2,hJ.2];exact sy) (by omega)
   have sy2:fj mt jn (mt x) (jn (mt x)):= .join (.refl _);have a5:=one (mt x).toNat (jn (mt x)).toNat hM.1 B9.1 (by rw[hM.2,B9.2];exact sy2) (by omega);have sy3:fj mt jn (jn x) (jn (mt x)):=(cJ.symm hi jb).trans Xs;have a6:=one (jn x).toNat (jn (mt x)).toNat hJ.1 B9.1 (by rw[hJ.2,B9.2];exact sy3) (by omega);have b1:=JE x;have b2:=JE (mt x).toNat;have b3:=JE (jn x).toNat
   have b4:=JE (jn (mt x)).toNat;omega
 have e2:=xM (fun _=>(1:Int)) (fun x:Nat=>if mt x=jn x then (1:Int) else 0) (4*n);rw[e2,xf,<-key]at e1;rw[BD];omega
inductive ng(mt jn:Int->Int)(c:Int):Int->Int->Prop
 |refl (x:Int):ng mt jn c x x
 |mate {x y:Int} (h:ng mt jn c x y):ng mt jn c x (mt y)
 |join {x y:Int} (h:ng mt jn c x y) (hy:y/4≠c):ng mt jn c x (jn y)
 |any {x y z:Int} (h:ng mt jn c x y) (hy:y/4=c) (hz:z/4=c):ng mt jn c x z
theorem ng.trans{mt jn:Int->Int}{c x y z:Int}(h1:ng mt jn c x y)(h2:ng mt jn c y z):ng mt jn c x z:=by
 induction h2 with
 |refl=>exact h1
 |mate _ ih=>exact .mate ih
 |join _ hy ih=>exact .join ih hy
 |any _ hy hz ih=>exact .any ih hy hz
structure Way(n:Nat)(mt jn:Int->Int)(c:Nat)(x e:Int)(O:Int->Prop):Prop where
 inX:O x
 inE:O e
 ne:e≠x
 eC:e/4=c
 ends:∀y,O y->y/4=c->y=x\/y=e
 mate:∀y,O y->O (mt y)
 join:∀y,O y->y/4≠c->O (jn y)
 fP:∀y,O y->cE n y
section
variable{n:Nat}{mt jn:Int->Int}{c:Nat}
def JnC(jn:Int->Int):Prop:=∀x,jn x/4=x/4
theorem xj(hi:Inv2 n mt jn)(hj:JnC jn){x:Int}(hx:cE n x)(Dv:x/4=c):∃e O,Way n mt jn c x e O/\ ∀kn:Int->Int,(∀y:Int,0<=y->y/4≠c->kn y=jn y)->∀y,O y->fj mt kn x y:=by
 have hR:∀j,cE n (it (fun x=>jn (mt x)) j x):=fun j=>(LM hi).it hx j;obtain⟨k,hk,tT⟩:=(LM hi).fD hx;have Ay:=tT.pos;have wE:=tT.back;have ex:∃j,mt (it (fun x=>jn (mt x)) j x)/4=c:=by
  refine⟨k-1,?_⟩;have e:it (fun x=>jn (mt x)) ((k-1)+1) x=x:=by rw[show k-1+1=k by omega];exact wE
  have e2:jn (mt (it (fun x=>jn (mt x)) (k-1) x))=x:=e;rw[<-hj,e2,Dv]
 have Ic:∀b,(∃j,j<=b/\mt (it (fun x=>jn (mt x)) j x)/4=c)->∃j,mt (it (fun x=>jn (mt x)) j x)/4=c/\ ∀i,i<j->mt (it (fun x=>jn (mt x)) i x)/4≠c:=by
  intro b
  induction b with
  |zero=>rintro⟨j,hj,h⟩;obtain rfl:j=0:=by omega
         exact⟨0,h,fun i hi=>by omega⟩
  |succ b ih=>
   rintro⟨j,hj,h⟩;by_cases hq:∃j,j<=b/\mt (it (fun x=>jn (mt x)) j x)/4=c
   ·exact ih hq
   ·refine⟨j,h,fun i hi hc=>hq ⟨i,by omega,hc⟩⟩
 obtain⟨j0,h0⟩:=ex;obtain⟨j,Gu,dH⟩:=Ic j0 ⟨j0,zA _,h0⟩;have succ:∀i,it (fun x=>jn (mt x)) (i+1) x=jn (mt (it (fun x=>jn (mt x)) i x)):=fun i=>rfl;have off:∀i,0<i->i<=j->it (fun x=>jn (mt x)) i x/4≠c:=fun i h1 h2=>by
  obtain⟨i,rfl⟩:∃i',i=i'+1:=⟨i-1,by omega⟩;rw[succ,hj];exact dH i (by omega)
 refine⟨mt (it (fun x=>jn (mt x)) j x),fun y=>∃i,i<=j/\(y=it (fun x=>jn (mt x)) i x\/y=mt (it (fun x=>jn (mt x)) i x)),⟨⟨0,by omega,.inl rfl⟩,⟨j,zA _,.inr rfl⟩,?_,Gu,?_,?_,?_,?_⟩,?_⟩
 ·exact fun e=>(y2z hi hx j 0 j (by omega)).2 e.symm
 ·rintro y ⟨i,lk,rfl|rfl⟩ xt
  ·by_cases qQ:i=0
   ·subst qQ;exact .inl rfl
   ·exact zzA xt (off i (by omega) lk)
  ·by_cases qQ:i=j
   ·subst qQ;exact .inr rfl
   ·exact zzA xt (dH i (by omega))
 ·rintro y ⟨i,lk,rfl|rfl⟩
  ·exact⟨i,lk,.inr rfl⟩
  ·exact⟨i,lk,.inl (hi.mm _ (hR i))⟩
 ·rintro y ⟨i,lk,rfl|rfl⟩ xt
  ·by_cases qQ:i=0
   ·subst qQ;exact zzA Dv xt
   ·obtain⟨i,rfl⟩:∃i',i=i'+1:=⟨i-1,by omega⟩;exact⟨i,by omega,.inr (by rw[succ,hi.jj _ (hi.mr _ (hR i))])⟩
  ·by_cases qQ:i=j
   ·subst qQ;exact zzA Gu xt
   ·exact⟨i+1,by omega,.inl rfl⟩
 ·rintro y ⟨i,lk,rfl|rfl⟩
  ·exact hR i
  ·exact hi.mr _ (hR i)
 ·intro kn Ph y hy;have hc:∀i,i<=j->fj mt kn x (it (fun x=>jn (mt x)) i x):=by
   intro i
   induction i with
   |zero=>intro _;exact .refl _
   |succ i ih=>
    intro lk;rw[succ,<-Ph _ (by have:=hi.mr _ (hR i);unfold cE at this;exact this.1) (dH i (by omega))];exact .join (.mate (ih (by omega)))
  obtain⟨i,lk,rfl|rfl⟩:=hy
  ·exact hc i lk
  ·exact .mate (hc i lk)
end
def pr3:Nat->Int->Int
 |0,x=>bV false x
 |1,x=>bV true x
 |_,x=>x-x % 4+(x % 4+2)% 4
def Dd(s:Nat->Nat)(x:Int):Int:=pr3 (s (x/4).toNat) x
theorem y6p(n:Nat){mt jn:Int->Int}{R:List Int}(hR:sJ n mt jn R)(hn:0<n):1<=roots R:=by
 have h1:=hR.rep.fP 0 (by omega);have h2:=hR.rep.idem 0 (by omega);unfold roots
 have:0<(List.range R.length).countP fun x=>R.getD x 0==(x:Int):=by
  rw[List.countP_pos_iff];exact⟨(R.getD 0 0).toNat,zK.2 (by rw[hR.rep.len];omega),by simp only[beq_iff_eq];omega⟩
 omega
def jO(v l:Int):Bool:=decide (-l<=v)&&decide (v<=l)
def wZ(p:List (Int×Int)):Prop:=∀t∈p,-1125899906842624<=t.2/\t.2<=1125899906842624
def dR(f:Int->Int->Int)(p q:List (Int×Int)):List (Int×Int):=match p,q with
 |[],[]=>[]
 |(e,a)::p,[]=>(e,f a 0)::dR f p []
 |[],(e,b)::q=>(e,f 0 b)::dR f [] q
 |(e,a)::p,(e',b)::q=>if e<e' then (e,f a 0)::dR f p ((e',b)::q) else if e'<e then (e',f 0 b)::dR f ((e,a)::p) q else (e,f a b)::dR f p q
termination_by p.length+q.length
def rJ(l:List (Int×Int)):Bool:=l.all fun t=>jO t.2 1125899906842624
def nz(l:List (Int×Int)):List (Int×Int):=l.filter fun t=>t.2 !=0
def pL(a b:Int):Int:=a+b
def oR(_ b:Int):Int:= -b
def nE(k:Int)(p:List (Int×Int)):List (Int×Int):=p.map fun t=>(t.1+k,t.2)
def rS(q:List (Int×Int))(low e c:Int):Nat->List Int->List Int
 |0,zs=>zs
 |j+1,zs=>(rS q low e c j zs).set (e+(q.getD j (0,0)).1-low).toNat ((rS q low e c j zs).getD (e+(q.getD j (0,0)).1-low).toNat 0+c*(q.getD j (0,0)).2)
def sQ(p q:List (Int×Int))(low:Int):Nat->List Int->List Int
 |0,zs=>zs
 |i+1,zs=>rS q low (p.getD i (0,0)).1 (p.getD i (0,0)).2 q.length (sQ p q low i zs)
theorem IA(q:List (Int×Int))(low e c:Int):∀j zs,(rS q low e c j zs).length=zs.length
 |0,zs=>rfl
 |j+1,zs=>by simp only[rS,zzF];exact IA q low e c j zs
theorem Eu(p q:List (Int×Int))(low:Int):∀i zs,(sQ p q low i zs).length=zs.length
 |0,zs=>rfl
 |i+1,zs=>by simp only[sQ];rw[IA,Eu]
def gF:Int->List Int->List (Int×Int)
 |_,[]=>[]
 |e,c::r=>if c=0 then gF (e+1) r else (e,c)::gF (e+1) r
theorem Mp:∀(e:Int) (l:List Int) (c:Int),gF e (l++[c])=gF e l++(if c=0 then [] else [(e+l.length,c)])
 |e,[],c=>by simp only[List.nil_append,gF,zzC];split<;>simp
 |e,x::l,c=>by
  have:=Mp (e+1) l c
  simp only[List.cons_append,gF,this,zH];have h:e+1+(l.length:Int)=e+((l.length+1:Nat):Int):=by omega
  rw[h]
  split<;>split<;>simp
theorem LJ:∀(e:Int) (l:List Int),(gF e l).length<=l.length
 |_,[]=>zA _
 |e,c::r=>by
  have:=LJ (e+1) r
  simp only[gF];split<;>simp only[zH]<;>omega
abbrev bf(p:List (Int×Int)):Int:=(p.getD 0 (0,0)).1
abbrev lE(p:List (Int×Int)):Int:=(p.getD (p.length-1) (0,0)).1
def oU(p q:List (Int×Int)):List Int:=sQ p q (bf p+bf q) p.length (List.replicate (lE p+lE q-(bf p+bf q)+1).toNat 0)
def bM:List (Int×Int)->Int->Int
 |[],_=>0
 |t::p,e=>(if t.1=e then t.2 else 0)+bM p e
structure dA(p:List (Int×Int)):Prop where
 asc:p.Pairwise fun a b=>a.1<b.1
 nz:∀t∈p,t.2≠0
theorem y6q(p q:List (Int×Int))(e:Int):bM (p++q) e=bM p e+bM q e:=by
 induction p with
 |nil=>simp[bM]
 |cons t p ih=>simp only[List.cons_append,bM,ih];omega
theorem uz{p:List (Int×Int)}{e:Int}(h:∀t∈p,t.1≠e):bM p e=0:=by
 induction p with
 |nil=>rfl
 |cons t p ih=>
  simp only[bM];rw[zL (h t (zE ..)),ih fun u hu=>h u (zF _ hu)];rfl
theorem dA.tail{t:Int×Int}{p:List (Int×Int)}(h:dA (t::p)):dA p:=⟨(List.pairwise_cons.1 h.asc).2,fun u hu=>h.nz u (zF _ hu)⟩
theorem dA.head{t:Int×Int}{p:List (Int×Int)}(h:dA (t::p)):∀u∈p,t.1<u.1:=(List.pairwise_cons.1 h.asc).1
theorem dA.nil:dA []:=⟨.nil,fun _ h=>by cases h⟩
theorem CQ{p:List (Int×Int)}(h:dA p){t:Int×Int}(ht:t∈p):bM p t.1=t.2:=by
 induction p with
 |nil=>cases ht
 |cons u p ih=>
  simp only[bM];rcases zzD.1 ht with rfl|ht
  ·rw[zM rfl,uz fun v hv=>by have:=h.head v hv;omega];omega
  ·rw[zL (by have:=h.head t ht;omega),ih h.tail ht];omega
theorem QM{p:List (Int×Int)}{e:Int}(h:bM p e≠0):∃t∈p,t.1=e:=by
 induction p with
 |nil=>exact zzA rfl h
 |cons t p ih=>
  by_cases ht:t.1=e
  ·exact⟨t,zE ..,ht⟩
  ·simp only[bM,zL ht,Int.zero_add]at h;obtain⟨u,hu,e2⟩:=ih h;exact⟨u,zF _ hu,e2⟩
theorem dA.ext:∀{p q:List (Int×Int)},dA p->dA q->(∀e,bM p e=bM q e)->p=q
 |[],[],_,_,_=>rfl
 |[],t::q,_,hq,h=>by
  have:=h t.1
  rw[CQ hq (zE ..)]at this;exact zzA this.symm (hq.nz t (zE ..))
 |t::p,[],hp,_,h=>by
  have:=h t.1
  rw[CQ hp (zE ..)]at this;exact zzA this (hp.nz t (zE ..))
 |t::p,u::q,hp,hq,h=>by
  have m1:bM (t::p) t.1=t.2:=CQ hp (zE ..);have m2:bM (u::q) u.1=u.2:=CQ hq (zE ..);have n1:=hp.nz t (zE ..);have n2:=hq.nz u (zE ..);have e1:t.1=u.1:=by
   obtain⟨v,hv,ev⟩:=QM (p:=u::q) (e:=t.1) (by rw[<-h,m1];exact n1);obtain⟨w,hw,ew⟩:=QM (p:=t::p) (e:=u.1) (by rw[h,m2];exact n2);rcases zzD.1 hv with rfl|hv
   ·exact ev.symm
   ·rcases zzD.1 hw with rfl|hw
    ·exact ew
    ·have:=hq.head v hv
     have:=hp.head w hw
     omega
  have e2:t.2=u.2:=by rw[<-m1,<-m2,h,e1]
  have et:t=u:=Prod.ext e1 e2;subst et;rw[dA.ext hp.tail hq.tail fun e=>by have:=h e;simp only[bM]at this;omega]
theorem RR:∀(e:Int) (l:List Int),∀t∈gF e l,e<=t.1/\t.1<e+l.length
 |_,[],t,ht=>by cases ht
 |e,c::r,t,ht=>by
  simp only[gF]at ht;have key:t∈gF (e+1) r->e<=t.1/\t.1<e+(c::r).length:=fun h=>by
   have:=RR (e+1) r t h
   simp only[zH];omega
  split at ht
  ·exact key ht
  ·rcases zzD.1 ht with rfl|ht
   ·simp only[zH];omega
   ·exact key ht
theorem LH:∀(e:Int) (l:List Int),dA (gF e l)
 |_,[]=> .nil
 |e,c::r=>by
  have ih:=LH (e+1) r;simp only[gF]
  split
  ·exact ih
  ·rename_i h
   refine⟨List.pairwise_cons.2 ⟨fun u hu=>by have:=RR (e+1) r u hu;show e<u.1;omega,ih.asc⟩,fun u hu=>?_⟩;rcases zzD.1 hu with rfl|hu
   ·exact h
   ·exact ih.nz u hu
theorem Iz:∀(e:Int) (l:List Int) (x:Int),bM (gF e l) x=if e<=x then l.getD (x-e).toNat 0 else 0
 |e,[],x=>by simp[gF,bM]
 |e,c::r,x=>by
  have ih:=Iz (e+1) r x;by_cases hx:e=x
  ·subst hx;rw[zL (by omega)]at ih;simp only[gF]
   split
   ·rename_i h;rw[ih,zM (Int.le_refl _)];simp[h]
   ·simp only[bM,ih];simp
  ·have k:bM (gF e (c::r)) x=bM (gF (e+1) r) x:=by
    simp only[gF]
    split
    ·rfl
    ·simp only[bM];rw[zL hx];omega
   rw[k,ih];by_cases hl:e+1<=x
   ·rw[zM hl,zM (by omega)];obtain⟨d,hd⟩:∃d:Nat,x=e+1+d:=⟨(x-e-1).toNat,by omega⟩;rw[hd,show (e+1+(d:Int)-e).toNat=d+1 by omega,show (e+1+(d:Int)-(e+1)).toNat=d by omega,List.getD_cons_succ]
   ·rw[zL hl,zL (by omega)]
theorem QL(l:List (Int×Int))(e:Int):bM (nz l) e=bM l e:=by
 induction l with
 |nil=>rfl
 |cons t l ih=>
  unfold nz at ih⊢;by_cases h:t.2=0
  ·rw[List.filter_cons_of_neg (by simp[h]),ih];simp only[bM,h];split<;>omega
  ·rw[List.filter_cons_of_pos (by simp[h])];simp only[bM,ih]
theorem Et(f:Int->Int->Int)(x:Int):∀p q:List (Int×Int),(∀t∈p,x<t.1)->(∀t∈q,x<t.1)->∀t∈dR f p q,x<t.1:=by
 intro p q
 induction p,q using dR.induct with
 |case1=>intro _ _ t ht;simp[dR]at ht
 |case2 e a p ih=>
  intro hp hq t ht;unfold dR at ht;rcases zzD.1 ht with rfl|ht
  ·exact hp (e,a) (zE ..)
  ·exact ih (fun u hu=>hp u (zF _ hu)) hq t ht
 |case3 e b q ih=>
  intro hp hq t ht;unfold dR at ht;rcases zzD.1 ht with rfl|ht
  ·exact hq (e,b) (zE ..)
  ·exact ih hp (fun u hu=>hq u (zF _ hu)) t ht
 |case4 e a p e' b q h ih=>
  intro hp hq t ht;unfold dR at ht;rw[zM h]at ht;rcases zzD.1 ht with rfl|ht
  ·exact hp (e,a) (zE ..)
  ·exact ih (fun u hu=>hp u (zF _ hu)) hq t ht
 |case5 e a p e' b q h h2 ih=>
  intro hp hq t ht;unfold dR at ht;rw[zL h,zM h2]at ht;rcases zzD.1 ht with rfl|ht
  ·exact hq (e',b) (zE ..)
  ·exact ih hp (fun u hu=>hq u (zF _ hu)) t ht
 |case6 e a p e' b q h h2 ih=>
  intro hp hq t ht;unfold dR at ht;rw[zL h,zL h2]at ht;rcases zzD.1 ht with rfl|ht
  ·exact hp (e,a) (zE ..)
  ·exact ih (fun u hu=>hp u (zF _ hu)) (fun u hu=>hq u (zF _ hu)) t ht
theorem RQ(f:Int->Int->Int):∀p q:List (Int×Int),p.Pairwise (fun a b=>a.1<b.1)->q.Pairwise (fun a b=>a.1<b.1)->(dR f p q).Pairwise fun a b=>a.1<b.1:=by
 intro p q
 induction p,q using dR.induct with
 |case1=>intro _ _;simp[dR]
 |case2 e a p ih=>
  intro hp hq;unfold dR;have h1:=List.pairwise_cons.1 hp;exact List.pairwise_cons.2 ⟨Et f e p [] h1.1 (fun _ h=>by cases h),ih h1.2 hq⟩
 |case3 e b q ih=>
  intro hp hq;unfold dR;have h1:=List.pairwise_cons.1 hq;exact List.pairwise_cons.2 ⟨Et f e [] q (fun _ h=>by cases h) h1.1,ih hp h1.2⟩
 |case4 e a p e' b q h ih=>
  intro hp hq;unfold dR;rw[zM h];have h1:=List.pairwise_cons.1 hp;have h2:=List.pairwise_cons.1 hq;refine List.pairwise_cons.2 ⟨Et f e p _ h1.1 (fun t ht=>?_),ih h1.2 hq⟩;rcases zzD.1 ht with rfl|ht
  ·exact h
  ·have:=h2.1 t ht;show e<t.1;simp only at this;omega
 |case5 e a p e' b q h h2 ih=>
  intro hp hq;unfold dR;rw[zL h,zM h2];have h3:=List.pairwise_cons.1 hp;have h4:=List.pairwise_cons.1 hq;refine List.pairwise_cons.2 ⟨Et f e' _ q (fun t ht=>?_) h4.1,ih hp h4.2⟩;rcases zzD.1 ht with rfl|ht
  ·exact h2
  ·have:=h3.1 t ht;show e'<t.1;simp only at this;omega
 |case6 e a p e' b q h h2 ih=>
  intro hp hq;unfold dR;rw[zL h,zL h2];have h3:=List.pairwise_cons.1 hp;have h4:=List.pairwise_cons.1 hq;refine List.pairwise_cons.2 ⟨Et f e p q h3.1 (fun t ht=>?_),ih h3.2 h4.2⟩
  have:=h4.1 t ht;show e<t.1;simp only at this;omega
theorem you(f:Int->Int->Int)(h0:f 0 0=0):∀p q:List (Int×Int),p.Pairwise (fun a b=>a.1<b.1)->q.Pairwise (fun a b=>a.1<b.1)->∀x,bM (dR f p q) x=f (bM p x) (bM q x):=by
 intro p q
 induction p,q using dR.induct with
 |case1=>intro _ _ x;simp[dR,bM,h0]
 |case2 e a p ih=>
  intro hp hq x;have h1:=List.pairwise_cons.1 hp
  conv=>lhs;unfold dR
  simp only[bM];rw[ih h1.2 hq];by_cases hx:e=x
  ·have n1:bM p x=0:=uz fun t ht=>by have:=h1.1 t ht;simp only at this;omega
   rw[zM hx,zM hx,n1];simp[bM,h0]
  ·rw[zL hx,zL hx];simp[bM]
 |case3 e b q ih=>
  intro hp hq x;have h1:=List.pairwise_cons.1 hq
  conv=>lhs;unfold dR
  simp only[bM];rw[ih hp h1.2];by_cases hx:e=x
  ·have n1:bM q x=0:=uz fun t ht=>by have:=h1.1 t ht;simp only at this;omega
   rw[zM hx,zM hx,n1];simp[bM,h0]
  ·rw[zL hx,zL hx];simp[bM]
 |case4 e a p e' b q h ih=>
  intro hp hq x;have h1:=List.pairwise_cons.1 hp;have h2:=List.pairwise_cons.1 hq
  conv=>lhs;unfold dR
  rw[zM h];simp only[bM];rw[ih h1.2 hq];simp only[bM];by_cases hx:e=x
  ·have n1:bM p x=0:=uz fun t ht=>by have:=h1.1 t ht;simp only at this;omega
   have n2:bM q x=0:=uz fun t ht=>by have:=h2.1 t ht;simp only at this;omega
   rw[zM hx,zM hx,n1,n2,zL (by omega)];simp[h0]
  ·rw[zL hx,zL hx];simp
 |case5 e a p e' b q h h2 ih=>
  intro hp hq x;have h3:=List.pairwise_cons.1 hp;have h4:=List.pairwise_cons.1 hq
  conv=>lhs;unfold dR
  rw[zL h,zM h2];simp only[bM];rw[ih hp h4.2];simp only[bM];by_cases hx:e'=x
  ·have n1:bM p x=0:=uz fun t ht=>by have:=h3.1 t ht;simp only at this;omega
   have n2:bM q x=0:=uz fun t ht=>by have:=h4.1 t ht;simp only at this;omega
   rw[zM hx,zM hx,n1,n2,zL (by omega)];simp[h0]
  ·rw[zL hx,zL hx];simp
 |case6 e a p e' b q h h2 ih=>
  intro hp hq x;have h3:=List.pairwise_cons.1 hp;have h4:=List.pairwise_cons.1 hq
  conv=>lhs;unfold dR
  rw[zL h,zL h2];simp only[bM];rw[ih h3.2 h4.2];have ee:e'=e:=by omega
  by_cases hx:e=x
  ·have n1:bM p x=0:=uz fun t ht=>by have:=h3.1 t ht;simp only at this;omega
   have n2:bM q x=0:=uz fun t ht=>by have:=h4.1 t ht;simp only at this;omega
   rw[zM hx,zM hx,n1,n2,zM (by omega)];simp[h0]
  ·rw[zL hx,zL hx,zL (by omega)];simp
theorem QK{l:List (Int×Int)}(h:l.Pairwise fun a b=>a.1<b.1):dA (nz l):=by
 refine⟨List.Pairwise.filter _ h,fun t ht=>?_⟩
 have:=(List.mem_filter.1 ht).2
 simpa using this
def tg(p:List (Int×Int))(g:Int->Int)(e:Int):Int:=match p with
 |[]=>0
 |t::p=>t.2*g (e-t.1)+tg p g e
theorem Ty(l:List Int)(i j:Nat)(v:Int)(hi:i<l.length):(l.set i v).getD j 0=if i=j then v else l.getD j 0:=by
 by_cases h:i=j
 ·subst h;simp[hi]
 ·rw[zL h];simp[zB,List.getElem?_set_ne h]
theorem y21(p:List (Int×Int))(t:Int×Int)(e:Int):bM (p++[t]) e=bM p e+if t.1=e then t.2 else 0:=by
 rw[y6q];simp[bM]
theorem T7{α:Type}{l:List α}{k:Nat}(d:α)(h:k<l.length):l.take (k+1)=l.take k++[l.getD k d]:=by
 rw[List.take_succ_eq_append_getElem h];simp[h]
theorem RP(q:List (Int×Int))(low e c:Int)(zs:List Int)(hr:∀j,j<q.length->low<=e+(q.getD j (0,0)).1/\e+(q.getD j (0,0)).1<low+zs.length):
  ∀j,j<=q.length->∀x:Nat,x<zs.length->(rS q low e c j zs).getD x 0=zs.getD x 0+c*bM (q.take j) (low+x-e)
 |0,_,x,_=>by simp[rS,bM]
 |j+1,hj,x,hx=>by
  have ih:=RP q low e c zs hr j (by omega);have h1:=hr j (by omega);have hl:=IA q low e c j zs;rw[T7 (0,0) (by omega),y21];simp only[rS];rw[Ty _ _ _ _ (by omega)];by_cases h:(e+(q.getD j (0,0)).1-low).toNat=x
  ·rw[zM h,h,ih x hx,zM (by omega),Int.mul_add];omega
  ·rw[zL h,ih x hx,zL (by omega),Int.add_zero]
theorem y22(p:List (Int×Int))(t:Int×Int)(g:Int->Int)(e:Int):tg (p++[t]) g e=tg p g e+t.2*g (e-t.1):=by
 induction p with
 |nil=>simp[tg]
 |cons u p ih=>simp only[List.cons_append,tg,ih];omega
theorem RO(p q:List (Int×Int))(low:Int)(zs:List Int)(hr:∀i j,i<p.length->j<q.length->low<=(p.getD i (0,0)).1+(q.getD j (0,0)).1/\(p.getD i (0,0)).1+(q.getD j (0,0)).1<low+zs.length):
  ∀i,i<=p.length->∀x:Nat,x<zs.length->(sQ p q low i zs).getD x 0=zs.getD x 0+tg (p.take i) (bM q) (low+x)
 |0,_,x,_=>by simp[sQ,tg]
 |i+1,hi,x,hx=>by
  have ih:=RO p q low zs hr i (by omega);have hl:=Eu p q low i zs;simp only[sQ];rw[RP q low _ _ _ (fun j hj=>by have:=hr i j (by omega) hj;rw[hl];exact this) q.length (zA _) x (by omega),ih x hx,T7 (0,0) (by omega),y22,List.take_length];omega
theorem y23{p:List (Int×Int)}{g:Int->Int}{e:Int}(h:∀t∈p,g (e-t.1)=0):tg p g e=0:=by
 induction p with
 |nil=>rfl
 |cons t p ih=>simp only[tg,h t (zE ..),ih fun u hu=>h u (zF _ hu)];simp
theorem CP{p:List (Int×Int)}(h:dA p){t:Int×Int}(ht:t∈p):bf p<=t.1/\t.1<=lE p:=by
 obtain⟨i,hi,rfl⟩:=List.mem_iff_getElem.1 ht;have P:=List.pairwise_iff_getElem.1 h.asc;unfold bf lE;simp only[zB,zJ (show 0<p.length by omega),zJ (show p.length-1<p.length by omega),Option.getD_some];constructor
 ·by_cases h0:i=0
  ·subst h0;exact Int.le_refl _
  ·have:=P 0 i (by omega) hi (by omega);omega
 ·by_cases h0:i=p.length-1
  ·subst h0;exact Int.le_refl _
  ·have:=P i (p.length-1) hi (by omega) (by omega);omega
theorem xO{p:List (Int×Int)}{i:Nat}(hi:i<p.length):p.getD i (0,0)∈p:=by
 simp[zB,zJ hi]
theorem y6r{p q:List (Int×Int)}(hp:dA p)(hq:dA q)(e:Int):bM (gF (bf p+bf q) (oU p q)) e=tg p (bM q) e:=by
 rw[Iz];unfold oU;obtain⟨N,hN⟩:∃N:Nat,(lE p+lE q-(bf p+bf q)+1).toNat=N:=⟨_,rfl⟩;rw[hN];have out:∀e,(∀t∈p,∀u∈q,t.1+u.1≠e)->tg p (bM q) e=0:=fun e h=>y23 fun t ht=>uz fun u hu=>by have:=h t ht u hu;omega
 by_cases h1:bf p+bf q<=e
 ·rw[zM h1];obtain⟨x,hx⟩:∃x:Nat,e=bf p+bf q+x:=⟨(e-(bf p+bf q)).toNat,by omega⟩;rw[hx,show (bf p+bf q+(x:Int)-(bf p+bf q)).toNat=x by omega];have hl:=Eu p q (bf p+bf q) p.length (List.replicate N 0);rw[List.length_replicate]at hl;by_cases h2:x<N
  ·rw[RO p q _ _ (fun i j hi hj=>?_) p.length (zA _) x (by simpa using h2),List.take_length]
   ·simp[zB,h2]
   ·have a:=CP hp (xO hi);have b:=CP hq (xO hj);rw[List.length_replicate];omega
  ·rw[zB,zS (by omega)];exact(out _ fun t ht u hu=>by have a:=CP hp ht;have b:=CP hq hu;omega).symm
 ·rw[zL h1];exact(out _ fun t ht u hu=>by have a:=CP hp ht;have b:=CP hq hu;omega).symm
def fE(f:Int->Int)(e:Int):Int:= -(f (e+2))-f (e-2)
def ji:Nat->Int->Int
 |0,e=>if e=0 then 1 else 0
 |j+1,e=>fE (ji j) e
theorem Mo:∀(j:Nat) (e:Int),ji j e≠0-> -(2*(j:Int))<=e/\e<=2*j
 |0,e,h=>by
  have:e=0:=by
   by_cases h0:e=0
   ·exact h0
   ·simp[ji,h0]at h
  omega
 |j+1,e,h=>by
  by_cases h1:ji j (e+2)=0
  ·by_cases h2:ji j (e-2)=0
   ·exact zzA (by simp[ji,fE,h1,h2]) h
   ·have:=Mo j _ h2;omega
  ·have:=Mo j _ h1;omega
theorem LG:∀(j:Nat) (e:Int),-((2^j:Nat):Int)<=ji j e/\ji j e<=((2^j:Nat):Int)
 |0,e=>by simp only[ji];split<;>simp
 |j+1,e=>by
  have h1:=LG j (e+2);have h2:=LG j (e-2);simp only[ji,fE,Nat.pow_succ];omega
theorem Ho(p:List (Int×Int))(e:Int):tg p (bM [(-2,-1),(2,-1)]) e=fE (bM p) e:=by
 induction p with
 |nil=>rfl
 |cons t p ih=>
  have key:t.2*bM [(-2,-1),(2,-1)] (e-t.1)= -(if t.1=e+2 then t.2 else 0)-(if t.1=e-2 then t.2 else 0):=by
   simp only[bM];by_cases h1:t.1=e+2
   ·rw[zM (by omega),zL (by omega),zM h1,zL (by omega)];omega
   ·rw[zL (by omega),zL h1];by_cases h2:t.1=e-2
    ·rw[zM (by omega),zM h2];omega
    ·rw[zL (by omega),zL h2];omega
  show t.2*bM [(-2,-1),(2,-1)] (e-t.1)+tg p (bM [(-2,-1),(2,-1)]) e=_;rw[key,ih];simp only[fE,bM];omega
def vT(K:Nat)(c:Nat->Nat)(w:Nat->Int)(j:Nat)(e:Int):Int:=sm (fun k=>if j<=c k then ji (c k-j) (e-w k) else 0) K
def yz(K:Nat)(c:Nat->Nat)(w:Nat->Int)(j:Nat)(e:Int):Int:=sm (fun k=>if c k=j/\e=w k then 1 else 0) K
section
variable{K:Nat}{c:Nat->Nat}{w:Nat->Int}
theorem SR(j:Nat)(e:Int):vT K c w j e=fE (vT K c w (j+1)) e+yz K c w j e:=by
 induction K with
 |zero=>rfl
 |succ K ih=>
  unfold vT yz fE at ih⊢;simp only[sm];rw[ih];have key:(if j<=c K then ji (c K-j) (e-w K) else 0)= -(if j+1<=c K then ji (c K-(j+1)) (e+2-w K) else 0)-(if j+1<=c K then ji (c K-(j+1)) (e-2-w K) else 0)+(if c K=j/\e=w K then 1 else 0):=by
   by_cases h1:j+1<=c K
   ·rw[zM (by omega),zM h1,zM h1,zL (by omega),show c K-j=(c K-(j+1))+1 by omega];simp only[ji,fE];rw[show e-w K+2=e+2-w K by omega,show e-w K-2=e-2-w K by omega];omega
   ·rw[zL h1,zL h1];by_cases h2:c K=j
    ·rw[zM (by omega),show c K-j=0 by omega];simp only[ji];by_cases h3:e=w K
     ·rw[zM (by omega),zM ⟨h2,h3⟩];omega
     ·rw[zL (by omega),zL (by omega)];omega
    ·rw[zL (by omega),zL (by omega)];omega
  dsimp only;omega
theorem y6s{j:Nat}(h:∀k,k<K->c k<j)(e:Int):vT K c w j e=0:=by
 have:vT K c w j e=sm (fun _=>0) K:=oI fun k hk=>by have:=h k hk;rw[zL (by omega)]
 rw[this,xf];omega
theorem K4{f:Nat->Int}:∀{n:Nat},sm f n≠0->∃k,k<n/\f k≠0
 |0,h=>zzA rfl h
 |n+1,h=>by
  by_cases h1:f n=0
  ·simp only[sm,h1,Int.add_zero]at h;obtain⟨k,h2,h3⟩:=K4 h;exact⟨k,by omega,h3⟩
  ·exact⟨n,by omega,h1⟩
theorem Lo{f:Nat->Int}{b:Int}:∀{n:Nat},(∀k,k<n-> -b<=f k/\f k<=b)-> -(b*n)<=sm f n/\sm f n<=b*n
 |0,_=>by simp[sm]
 |n+1,h=>by
  have h1:=Lo (n:=n) fun k hk=>h k (by omega);have h2:=h n (by omega);simp only[sm,Int.natCast_add,Int.mul_add];omega
theorem Mn{j:Nat}{e:Int}(h:vT K c w j e≠0):∃k,k<K/\j<=c k/\w k-2*((c k:Int)-j)<=e/\e<=w k+2*((c k:Int)-j):=by
 obtain⟨k,hk,h2⟩:=K4 h;by_cases hj:j<=c k
 ·rw[zM hj]at h2
  have:=Mo _ _ h2
  exact⟨k,hk,hj,by omega,by omega⟩
 ·rw[zL hj]at h2;exact zzA rfl h2
theorem y6t{j M:Nat}(hM:∀k,k<K->c k-j<=M)(e:Int): -((2^M:Nat):Int)*K<=vT K c w j e/\vT K c w j e<=((2^M:Nat):Int)*K:=by
 have:=Lo (f:=fun k=>if j<=c k then ji (c k-j) (e-w k) else 0) (b:=((2^M:Nat):Int)) (n:=K) fun k hk=>by
  have h1:=hM k hk;have h2:2^(c k-j)<=2^M:=Nat.pow_le_pow_right (by omega) h1;have h3:=LG (c k-j) (e-w k)
  split<;>omega
 rw[Int.neg_mul];exact this
end
def iI:Nat->(Int->Int)->Int->Int
 |0,g=>g
 |i+1,g=>fE (iI i g)
def fB(g:Int->Int):Prop:=∃b:Nat,∀e:Int,g e≠0-> -(b:Int)<=e/\e<=b
theorem fB.fE{g:Int->Int}(h:fB g):fB (fE g):=by
 obtain⟨b,hb⟩:=h;refine⟨b+2,fun e he=>?_⟩;by_cases h1:g (e+2)=0
 ·by_cases h2:g (e-2)=0
  ·exact zzA (by simp[Proofs.YthohfoombimbeaaGreatDoor.fE,h1,h2]) he
  ·have:=hb _ h2;omega
 ·have:=hb _ h1;omega
theorem fB.iI{g:Int->Int}(h:fB g):∀i,fB (iI i g)
 |0=>h
 |i+1=>(fB.iI h i).fE
theorem fB.mul{g:Int->Int}(h:fB g)(a:Int):fB fun e=>(e-a)*g e:=by
 obtain⟨b,hb⟩:=h;exact⟨b,fun e he=>hb e fun h0=>he (by simp[h0])⟩
theorem fB.add{g f:Int->Int}(h:fB g)(h2:fB f):fB fun e=>g e+f e:=by
 obtain⟨b,hb⟩:=h;obtain⟨b2,oz⟩:=h2;refine⟨b+b2,fun e he=>?_⟩;by_cases h0:g e=0
 ·have:=oz e fun h1=>he (by simp[h0,h1]);omega
 ·have:=hb e h0;omega
def xC(g:Int->Int)(e:Int):Int:=2*g (e+2)-2*g (e-2)
theorem fB.xC{g:Int->Int}(h:fB g):fB (xC g):=by
 obtain⟨b,hb⟩:=h;refine⟨b+2,fun e he=>?_⟩;by_cases h1:g (e+2)=0
 ·by_cases h2:g (e-2)=0
  ·exact zzA (by simp[Proofs.YthohfoombimbeaaGreatDoor.xC,h1,h2]) he
  ·have:=hb _ h2;omega
 ·have:=hb _ h1;omega
theorem RN(g:Int->Int):∀i e,iI i (xC g) e=xC (iI i g) e
 |0,e=>rfl
 |i+1,e=>by
  simp only[iI,fE,RN g i,xC];rw[show e+2-2=e-2+2 by omega];omega
theorem RM(g f:Int->Int):∀i e,iI i (fun e=>g e+f e) e=iI i g e+iI i f e
 |0,e=>rfl
 |i+1,e=>by simp only[iI,fE,RM g f i];omega
theorem y6u(a:Int)(g:Int->Int)(e:Int):(e-a)*fE g e=fE (fun e=>(e-a)*g e) e+xC g e:=by
 simp only[fE,xC];have h1:(e+2-a)*g (e+2)=(e-a)*g (e+2)+2*g (e+2):=by rw[<-Int.add_mul];congr 1;omega
 have h2:(e-2-a)*g (e-2)=(e-a)*g (e-2)-2*g (e-2):=by rw[<-Int.sub_mul];congr 1;omega
 rw[h1,h2,Int.mul_sub,Int.mul_neg];omega
theorem RK(a:Int){g:Int->Int}(hg:fB g):∀i,∃g',fB g'/\ ∀e,(e-a)*iI (i+1) g e=iI i g' e
 |0=>⟨fun e=>(e-a)*iI 1 g e,(hg.iI 1).mul a,fun e=>rfl⟩
 |i+1=>by
  obtain⟨g',h1,h2⟩:=RK a hg i;refine⟨fun e=>g' e+xC g e,h1.add hg.xC,fun e=>?_⟩;have h3:iI (i+1+1) g e=fE (iI (i+1) g) e:=rfl;rw[h3,y6u,RM,RN];congr 1;simp only[iI,fE]at h2⊢;rw[<-h2,<-h2]
theorem dA.len{p:List (Int×Int)}(h:dA p):∀{a b:Int},(∀t∈p,a<=t.1/\t.1<=b)->(p.length:Int)<=max 0 (b-a+1):=by
 induction p with
 |nil=>intro a b _;simp;omega
 |cons t p ih=>
  intro a b hb;have h1:=hb t (zE ..)
  have:=ih h.tail (a:=t.1+1) (b:=b) fun u hu=>by
   have h2:=h.head u hu;have h3:=hb u (zF _ hu);omega
  simp only[zH];omega
theorem SQ(a:Int):∀(p:List (Int×Int)) (e:Int),bM (p.map fun t=>(t.1,(t.1-a)*t.2)) e=(e-a)*bM p e
 |[],e=>by simp[bM]
 |t::p,e=>by
  simp only[List.map_cons,bM,SQ a p e,Int.mul_add];by_cases h:t.1=e
  ·rw[zM h,zM h,h]
  ·rw[zL h,zL h];omega
theorem T6:∀(i:Nat) (p:List (Int×Int)) (g:Int->Int),dA p->fB g->(∀e,bM p e=iI i g e)->p≠[]->i+1<=p.length
 |0,p,g,_,_,_,aJ=>by
  have:=List.length_pos_iff.2 aJ;omega
 |i+1,[],g,_,_,_,aJ=>zzA rfl aJ
 |i+1,t::p,g,hp,hg,hc,_=>by
  obtain⟨g',h1,h2⟩:=RK t.1 hg i;have hq:dA (p.map fun u=>(u.1,(u.1-t.1)*u.2)):=by
   refine⟨?_,fun u hu=>?_⟩
   ·rw[List.pairwise_map];exact hp.tail.asc
   ·obtain⟨v,hv,rfl⟩:=zzE.1 hu;have a1:=hp.head v hv;have a2:=hp.nz v (zF _ hv);exact Int.mul_ne_zero (by omega) a2
  have nA:∀e,bM (p.map fun u=>(u.1,(u.1-t.1)*u.2)) e=iI i g' e:=fun e=>by
   rw[SQ,<-h2,<-hc];simp only[bM];by_cases h:t.1=e
   ·rw[zM h,h];simp
   ·rw[zL h];simp
  by_cases aJ:p=[]
  ·exfalso;subst aJ;obtain⟨b,hb⟩:=hg.iI i;have h3:∀e,fE (iI i g) e=if t.1=e then t.2 else 0:=fun e=>by
    have:=hc e;simp only[bM,iI,Int.add_zero]at this;exact this.symm
   have t2:=hp.nz t (zE ..);have lo:∀d:Nat,∀e:Int,e<t.1+2->e<= -(b:Int)-1+d->iI i g e=0:=by
    intro d
    induction d using Nat.strongRecOn with
    |_ d ih=>
     intro e h4 h5;by_cases h6:e<= -(b:Int)-1
     ·by_cases h7:iI i g e=0
      ·exact h7
      ·have:=hb e h7;omega
     ·have h8:=h3 (e-2);rw[zL (by omega)]at h8;have h9:iI i g (e-2-2)=0:=by
       by_cases AL:d<=3
       ·by_cases uT:iI i g (e-2-2)=0
        ·exact uT
        ·have:=hb _ uT;omega
       ·exact ih (d-4) (by omega) _ (by omega) (by omega)
      simp only[fE]at h8;rw[h9,show e-2+2=e by omega]at h8;omega
   have hi:∀d:Nat,∀e:Int,t.1-2<e->(b:Int)+1-d<=e->iI i g e=0:=by
    intro d
    induction d using Nat.strongRecOn with
    |_ d ih=>
     intro e h4 h5;by_cases h6:(b:Int)+1<=e
     ·by_cases h7:iI i g e=0
      ·exact h7
      ·have:=hb e h7;omega
     ·have h8:=h3 (e+2);rw[zL (by omega)]at h8;have h9:iI i g (e+2+2)=0:=by
       by_cases AL:d<=3
       ·by_cases uT:iI i g (e+2+2)=0
        ·exact uT
        ·have:=hb _ uT;omega
       ·exact ih (d-4) (by omega) _ (by omega) (by omega)
      simp only[fE]at h8;rw[h9,show e+2-2=e by omega]at h8;omega
   have e1:=h3 t.1;rw[zM rfl]at e1;simp only[fE]at e1;rw[lo (t.1-2+b+1).toNat (t.1-2) (by omega) (by omega),hi (b+1-(t.1+2)).toNat (t.1+2) (by omega) (by omega)]at e1;omega
  ·have:=T6 i _ g' hq h1 nA (by simpa using aJ)
   simp only[List.length_map,zH]at this⊢;omega
structure jo(m:List Int)(n:Nat):Prop where
 ok:rI m n
 inv:∀x:Nat,x<4*n->m.getD (m.getD x 0).toNat 0=x
 ne:∀x:Nat,x<4*n->m.getD x 0≠x
theorem x8{s m:List Int}{L:Int}(h:bG s m L=true):jo m s.length:=by
 have v:=gP h;refine⟨v.prd.ok,v.prd.inv,fun x hx=>?_⟩
 have:=v.mt x hx
 omega
abbrev aK(m:List Int)(n:Nat)(ch:Nat->Bool):Nat:=roots (ff m ch n)
def tK(b:Bool):Nat:=if b then 1 else 0
theorem SP(ch:Nat->Bool):Dd (fun c=>tK (ch c))=fun x=>bV (ch (x/4).toNat) x:=by
 funext x;unfold Dd tK;dsimp only;cases ch (x/4).toNat<;>rfl
section
variable{m:List Int}{n:Nat}(hp:jo m n)
include hp
theorem QJ(ch:Nat->Bool):sJ n (fun x=>m.getD x.toNat 0) (Dd (fun c=>tK (ch c))) (ff m ch n):=by
 rw[SP];exact K5 hp.ok hp.inv hp.ne
def cr(b:Bool)(ch:Nat->Bool):Nat->Nat
 |0=>0
 |c+1=>cr b ch c+if ch c=b then 0 else 1
theorem CS(ch:Nat->Bool)(hn:0<n):1<=aK m n ch:=y6p n (QJ hp ch) hn
end
def cV(b:Nat)(c:Nat):Bool:=b/2^c % 2==1
def dj(b:Nat):Nat->Nat
 |0=>0
 |c+1=>dj b c+b/2^c % 2
theorem zk(b:Nat):∀c,dj b c<=c
 |0=>zA _
 |c+1=>by have:=zk b c;simp only[dj];omega
theorem I5(b:Nat):∀c,dj b c=cr false (cV b) c
 |0=>rfl
 |c+1=>by
  simp only[dj,cr,I5 b c,cV];by_cases h:b/2^c % 2=1
  ·simp[h]
  ·have:b/2^c % 2=0:=by omega
   simp[this]
def cN(m:List Int)(n L:Nat)(b:Nat):Nat:=aK m n (cV b)+L
def wB(n:Nat)(b:Nat):Int:=(n:Int)-2*dj b n
def dF(m:List Int)(n L:Nat)(j:Nat)(e:Int):Int:=vT (2^n) (cN m n L) (wB n) j e
section
variable{m:List Int}{n L:Nat}(hp:jo m n)
include hp
omit hp in
theorem RJ:∀i,i<=L->∀e,dF m n L (L-i) e=iI i (dF m n L L) e
 |0,_,e=>rfl
 |i+1,hi,e=>by
  have h1:=SR (K:=2^n) (c:=cN m n L) (w:=wB n) (L-(i+1)) e;rw[show L-(i+1)+1=L-i by omega]at h1;have h0:yz (2^n) (cN m n L) (wB n) (L-(i+1)) e=0:=by
   have:yz (2^n) (cN m n L) (wB n) (L-(i+1)) e=sm (fun _=>0) (2^n):=oI fun k _=>by
    rw[zL];rintro⟨h2,_⟩;unfold cN at h2;omega
   rw[this,xf];omega
  rw[h0]at h1;show vT _ _ _ _ _=fE (iI i (dF m n L L)) e;rw[h1];simp only[fE,<-RJ i (by omega),Int.add_zero];rfl
end
def de(m:List Int)(n L:Nat):Nat->Int->Option (List Int)
 |0,_=>none
 |k+1,c=>if c=(cN m n L k:Int) then some (((de m n L k c).getD (List.replicate (n+1) 0)).set (dj k n) (((de m n L k c).getD (List.replicate (n+1) 0)).getD (dj k n) 0+1)) else de m n L k c
def sK(m:List Int)(n L:Nat):Nat->Nat
 |0=>0
 |k+1=>if sK m n L k<cN m n L k then cN m n L k else sK m n L k
theorem SO(m:List Int)(n L:Nat):∀K k,k<K->cN m n L k<=sK m n L K
 |K+1,k,h=>by
  simp only[sK];by_cases e:k=K
  ·subst e;split<;>omega
  ·have:=SO m n L K k (by omega)
   split<;>omega
theorem SN{m:List Int}{n L M:Nat}(h:∀k,cN m n L k<=M):∀K,sK m n L K<=M
 |0=>Nat.zero_le _
 |K+1=>by
  have:=SN h K
  have:=h K
  simp only[sK];split<;>omega
theorem Jg(m:List Int)(n L:Nat):∀K (j:Nat),(∀r,de m n L K (j:Int)=some r->r.length=n+1/\ ∀x,x<=n->r.getD x 0=sm (fun k=>if cN m n L k=j/\dj k n=x then 1 else 0) K)/\
  (de m n L K (j:Int)=none->∀k,k<K->cN m n L k≠j)
 |0,j=>⟨fun r h=>by simp[de]at h,fun _ k hk=>by omega⟩
 |K+1,j=>by
  obtain⟨h1,h2⟩:=Jg m n L K j;have hc:=zk K n;by_cases e:cN m n L K=j
  ·have e':(j:Int)=(cN m n L K:Int):=by omega
   have base:((de m n L K (j:Int)).getD (List.replicate (n+1) 0)).length=n+1/\ ∀x,x<=n->((de m n L K (j:Int)).getD (List.replicate (n+1) 0)).getD x 0=sm (fun k=>if cN m n L k=j/\dj k n=x then 1 else 0) K:=by
    cases hr:de m n L K (j:Int) with
    |none=>
     refine⟨by simp,fun x hx=>?_⟩
     have:sm (fun k=>if cN m n L k=j/\dj k n=x then 1 else 0) K=sm (fun _=>0) K:=oI fun k hk=>by rw[zL fun h=>h2 hr k hk h.1]
     rw[this,xf];simp[zB,List.getElem?_replicate]
     split<;>rfl
    |some r=>exact h1 r hr
   refine⟨fun r hr=>?_,fun hr=>by simp[de,e']at hr⟩;simp only[de]at hr;rw[zM e',Option.some.injEq]at hr;subst hr;refine⟨by rw[zzF];exact base.1,fun x hx=>?_⟩;rw[Ty _ _ _ _ (by omega),base.2 _ hc,base.2 x hx];simp only[sm];by_cases e2:dj K n=x
   ·rw[zM e2,zM ⟨e,e2⟩,e2]
   ·rw[zL e2,zL (fun h=>e2 h.2)];omega
  ·refine⟨fun r hr=>?_,fun hr k hk=>?_⟩
   ·simp only[de]at hr;rw[zL (by omega)]at hr;obtain⟨h3,h4⟩:=h1 r hr;refine⟨h3,fun x hx=>?_⟩;rw[h4 x hx];simp only[sm];rw[zL (fun h=>e h.1)];omega
   ·simp only[de]at hr;rw[zL (by omega)]at hr;by_cases e3:k=K
    ·subst e3;exact e
    ·exact h2 hr k (by omega)
theorem RH(f:Nat->Nat->Int)(a:Nat):∀b,sm (fun x=>sm (fun k=>f x k) b) a=sm (fun k=>sm (fun x=>f x k) a) b
 |0=>by simp only[sm];rw[xf];omega
 |b+1=>by simp only[sm];rw[<-RH f a b,xM]
theorem QI{f:Nat->Int}{a:Nat}:∀{n:Nat},a<n->(∀x,x<n->x≠a->f x=0)->sm f n=f a
 |n+1,ha,h=>by
  simp only[sm];by_cases e:a=n
  ·subst e;rw[oI (g:=fun _=>0) fun x hx=>h x (by omega) (by omega),xf];omega
  ·rw[QI (n:=n) (by omega) fun x hx aJ=>h x (by omega) aJ,h n (by omega) (by omega)];omega
def lU(n:Nat)(r:List Int)(x:Nat)(e:Int):Int:=sm (fun y=>if e=(n:Int)-2*y then r.getD y 0 else 0) x
theorem y24{m:List Int}{n L K j:Nat}{r:List Int}(h:de m n L K (j:Int)=some r)(e:Int):lU n r (n+1) e=yz K (cN m n L) (wB n) j e:=by
 obtain⟨h1,h2⟩:=(Jg m n L K j).1 r h;unfold lU yz;have s1:sm (fun y=>if e=(n:Int)-2*y then r.getD y 0 else 0) (n+1)=sm (fun y=>sm (fun k=>if e=(n:Int)-2*y/\cN m n L k=j/\dj k n=y then 1 else 0) K) (n+1):=oI fun y hy=>by
  by_cases e1:e=(n:Int)-2*y
  ·rw[zM e1,h2 y (by omega)];exact oI fun k _=>by
    by_cases e2:cN m n L k=j/\dj k n=y
    ·rw[zM e2,zM ⟨e1,e2⟩]
    ·rw[zL e2,zL fun h=>e2 h.2]
  ·rw[zL e1,oI (g:=fun _=>0) fun k _=>zL fun h=>e1 h.1,xf];omega
 rw[s1,RH];refine oI fun k _=>?_;have hc:=zk k n;rw[QI (a:=dj k n) (by omega) fun x _ aJ=>zL fun h=>aJ h.2.2.symm];unfold wB;by_cases e1:cN m n L k=j/\e=(n:Int)-2*dj k n
 ·rw[zM e1,zM ⟨e1.2,e1.1,rfl⟩]
 ·rw[zL e1,zL fun h=>e1 ⟨h.2.1,h.1⟩]
theorem Xy{m:List Int}{n L K j:Nat}(h:de m n L K (j:Int)=none)(e:Int):yz K (cN m n L) (wB n) j e=0:=by
 have:=(Jg m n L K j).2 h
 unfold yz;rw[oI (g:=fun _=>0) fun k hk=>zL fun h=>this k hk h.1,xf];omega
theorem Nb{m:List Int}{n L K j:Nat}{r:List Int}(h:de m n L K (j:Int)=some r){x:Nat}(hx:x<=n):0<=r.getD x 0/\r.getD x 0<=K:=by
 rw[((Jg m n L K j).1 r h).2 x hx];have h1:=D4 (f:=fun _=>0) (g:=fun k=>if cN m n L k=j/\dj k n=x then 1 else 0) (n:=K) fun k _=>by split<;>omega
 have h2:=D4 (g:=fun _=>1) (f:=fun k=>if cN m n L k=j/\dj k n=x then 1 else 0) (n:=K) fun k _=>by split<;>omega
 rw[xf]at h1 h2;omega
theorem Es(f:Nat->Int)(a:Nat):∀b,sm f (a*b)=sm (fun k2=>sm (fun k1=>f (a*k2+k1)) a) b
 |0=>rfl
 |b+1=>by rw[Nat.mul_succ,SU,Es f a b];rfl
theorem RG{k1 k2 i c:Nat}(hc:c<i):cV (2^i*k2+k1) c=cV k1 c:=by
 unfold cV;obtain⟨d,rfl⟩:∃d,i=c+(d+1):=⟨i-c-1,by omega⟩;rw[Nat.pow_add,Nat.mul_assoc,Nat.mul_add_div (Nat.pow_pos (by omega)),Nat.pow_succ,Nat.mul_comm (2^d) 2,Nat.mul_assoc,Nat.mul_add_mod]
theorem Ll{k1 k2 i c:Nat}(h:k1<2^i):cV (2^i*k2+k1) (i+c)=cV k2 c:=by
 unfold cV;rw[Nat.pow_add,<-Nat.div_div_eq_div_mul,Nat.mul_add_div (Nat.pow_pos (by omega)),Nat.div_eq_of_lt h,Nat.add_zero]
namespace Sp
section
variable{s m:List Int}{L:Int}{n c:Nat}{b:Bool}
theorem xZ{i:Nat}(hi:i/4≠c):∀k,k<=m.length->i<k->(kc m b c k).getD i 0=fk m b c 5 (m.getD i 0):=fun k=>by
 induction k with
 |zero=>intro _ h;omega
 |succ k ih=>
  intro hk aC;have hl:=RT (m:=m) (b:=b) (c:=c) k;simp only[kc];by_cases hkc:k/4=c
  ·rw[zM hkc]
   have:i≠k:=fun e=>hi (by rw[e];exact hkc)
   exact ih (by omega) (by omega)
  ·rw[zL hkc];by_cases e:k=i
   ·rw[<-e,pZ (by omega)]
   ·rw[oH e];exact ih (by omega) (by omega)
theorem aE(hv:bG s m L=true):bm m s.length/\qj m s.length=true:=by
 have v:=gP hv;refine⟨⟨v.prd,fun x hx=>(v.mt x hx).2.2.1⟩,?_⟩;rw[Mt]at hv;unfold Ee at hv;exact(zV _ _▸hv).2
end
section
variable{s m:List Int}{L:Int}{n c k:Nat}
def tw(k c x:Nat):Nat:=if x/4=c then x-x % 4+(x % 4+k)% 4 else x
end
section
variable{s m:List Int}{L:Int}{n c k:Nat}
def tI(k c:Nat)(x:Int):Int:=(tw k c x.toNat:Nat)
def af(y:Nat):Nat:=y-y % 4+(y % 4+2)% 4
theorem oP(y:Nat):kH y 2=(af y:Nat):=by unfold kH af;rw[show Int.tmod 2 4=2 by decide];omega
end
section
variable{s m:List Int}{L:Int}{n c k:Nat}
def Xv(v:List Bool):List Int->Nat
 |[]=>0
 |h::t=>(if v.getD (h/4).toNat false=false/\h % 2=0 then 1 else 0)+Xv (v.set (h/4).toNat true) t
def bc(s m:List Int):Nat:=Xv (List.replicate s.length false) (y2y s m).flatten
end
section
variable{s m:List Int}{L:Int}{n c k:Nat}
def kC:Nat->Nat
 |0=>1
 |n+1=>1+(n+1)*kC n
def cB(n b:Nat):Nat:=1+b*kC (n-1)
end
section
variable{s s1 s2 m m1 m2:List Int}{L L1 L2:Int}{n c k:Nat}
def gR(m1 m2:List Int):List Int:=m1++m2.map fun x=>x+(m1.length:Int)
theorem zw{i:Nat}(h:i<m1.length):(gR m1 m2).getD i 0=m1.getD i 0:=bR _ _ _ h
theorem zu{i:Nat}(h:i<m2.length):(gR m1 m2).getD (m1.length+i) 0=m2.getD i 0+m1.length:=by
 unfold gR;rw[cL _ _ _ (by omega),show m1.length+i-m1.length=i by omega];simp only[zB,zR,zJ h,Option.map_some,Option.getD_some]
theorem lY{x:Int}(h0:0<=x)(h:x<4*s1.length):aB (s1++s2) x=aB s1 x:=by
 unfold aB;rw[bR _ _ _ (by omega)]
theorem lX{x:Int}(h0:0<=x):aB (s1++s2) (x+4*s1.length)=aB s2 x:=by
 unfold aB;rw[show (x+4*s1.length)% 4=x % 4 by omega,show ((x+4*s1.length)/4).toNat=s1.length+(x/4).toNat by omega,cL _ _ _ (by omega),show s1.length+(x/4).toNat-s1.length=(x/4).toNat by omega]
theorem fh(h1:bG s1 m1 L1=true)(h2:bG s2 m2 L2=true)(hn:s1.length+s2.length<=64)(hL:L1+L2<=64):bG (s1++s2) (gR m1 m2) (L1+L2)=true:=by
 have v1:=gP h1;have v2:=gP h2;obtain⟨d1,p1⟩:=aE h1;obtain⟨d2,p2⟩:=aE h2;have S1:=d1.qk.1 p1;have S2:=d2.qk.1 p2;have l1:=v1.len;have l2:=v2.len;have ij:(s1++s2).length=s1.length+s2.length:=by simp
 have dw:(gR m1 m2).length=4*(s1.length+s2.length):=by unfold gR;simp;omega
 have gl:∀i,i<4*s1.length->(gR m1 m2).getD i 0=m1.getD i 0:=fun i hi=>zw (by omega);have gr:∀i,i<4*s2.length->(gR m1 m2).getD (i+4*s1.length) 0=m2.getD i 0+(4*s1.length:Nat):=fun i hi=>by
  rw[Nat.add_comm,<-l1,zu (by omega)]
 have al:∀i,i<4*s1.length->ae (gR m1 m2) i=ae m1 i:=fun i hi=>by unfold ae;rw[gl i hi]
 have ar:∀i,i<4*s2.length->ae (gR m1 m2) (i+4*s1.length)=ae m2 i+4*s1.length:=fun i hi=>by
  have:=(v2.mt i hi).1
  unfold ae;rw[gr i hi];omega
 have cs:∀x,x<4*(s1.length+s2.length)->x<4*s1.length\/ ∃i,i<4*s2.length/\x=i+4*s1.length:=fun x hx=>by
  by_cases h:x<4*s1.length
  ·exact .inl h
  ·exact .inr ⟨x-4*s1.length,by omega,by omega⟩
 have hM:bI (4*(s1.length+s2.length)) (ae (gR m1 m2)):=by
  refine⟨fun x hx=>?_,fun x hx=>?_,fun x hx=>?_⟩
  ·rcases cs x hx with h|⟨i,hi,rfl⟩
   ·rw[al x h];have:=S1.aW.lt x h;omega
   ·rw[ar i hi];have:=S2.aW.lt i hi;omega
  ·rcases cs x hx with h|⟨i,hi,rfl⟩
   ·rw[al x h,al _ (S1.aW.lt x h)];exact S1.aW.inv x h
   ·rw[ar i hi,ar _ (S2.aW.lt i hi),S2.aW.inv i hi]
  ·rcases cs x hx with h|⟨i,hi,rfl⟩
   ·rw[al x h];exact S1.aW.ne x h
   ·rw[ar i hi];have:=S2.aW.ne i hi;omega
 have hS:cb (4*(s1.length+s2.length)) ai (ae (gR m1 m2)):=by
  refine⟨aH _,hM,fun r hr=>?_⟩;rcases cs r hr with h|⟨i,hi,rfl⟩
  ·have:=Mq (N:=4*(s1.length+s2.length)) (N':=4*s1.length) (si:=ai) (al:=ae (gR m1 m2)) (si':=ai) (al':=ae m1) (io:=id) (aH _) hM (fun x hx=>by simp only[id];omega) (fun x y _ _ e=>e) (fun x hx=>(aH s1.length).lt x hx) S1.aW.lt (fun x _=>rfl) (fun x hx=>(al x hx).symm)
   exact(this.2.2 r h).2 (S1.eq r h)
  ·have:=Mq (N:=4*(s1.length+s2.length)) (N':=4*s2.length) (si:=ai) (al:=ae (gR m1 m2)) (si':=ai) (al':=ae m2) (io:=fun x=>x+4*s1.length) (aH _) hM (fun x hx=>by omega) (fun x y _ _ e=>by omega) (fun x hx=>(aH s2.length).lt x hx) S2.aW.lt (fun x _=>by unfold ai;omega) (fun x hx=>(ar x hx).symm)
   exact(this.2.2 i hi).2 (S2.eq i hi)
 have hc:∀x,x<4*(s1.length+s2.length)->((ae (gR m1 m2) x:Nat):Int)=(gR m1 m2).getD x 0:=fun x hx=>by
  rcases cs x hx with h|⟨i,hi,rfl⟩
  ·have:=(v1.mt x h).1
   rw[al x h,gl x h];unfold ae;omega
  ·have:=(v2.mt i hi).1
   rw[ar i hi,gr i hi];unfold ae;omega
 have hD:bm (gR m1 m2) (s1.length+s2.length):=by
  refine⟨⟨⟨dw,fun i hi=>?_⟩,fun x hx=>?_⟩,fun x hx e=>?_⟩
  ·have h1:=hc i hi;have h2:=hM.lt i hi;omega
  ·have h1:=hc x hx;have h2:=hM.inv x hx;have h3:=hc _ (hM.lt x hx);rw[h2]at h3;rw[<-h1,zD,<-h3]
  ·have h1:=hc x hx;exact hM.ne x hx (by omega)
 rw[Mt];unfold Ee;rw[ij,zV];refine⟨?_,hD.qk.2 hS⟩;unfold xc;rw[decide_eq_true_iff,ij];have z1:=v1.l0;have z2:=v2.l0;refine⟨hn,dw,by omega,hL,fun i hi=>?_,fun h hh=>?_⟩
 ·by_cases DJ:i<s1.length
  ·rw[bR _ _ _ DJ];exact v1.sg i DJ
  ·rw[cL _ _ _ (by omega)];exact v2.sg _ (by omega)
 ·have q:=hD.prd.ok.2 h hh;refine⟨q.1,by rw[ij];exact q.2,hD.ne h hh,hD.prd.inv h hh,?_⟩;rcases cs h hh with hl|⟨i,hi,rfl⟩
  ·have r:=v1.mt h hl;rw[gl h hl,lY (by omega) (by omega),lY r.1 r.2.1];exact r.2.2.2.2
  ·have r:=v2.mt i hi;rw[gr i hi,show ((i+4*s1.length:Nat):Int)=(i:Int)+4*s1.length by omega,show ((4*s1.length:Nat):Int)=4*(s1.length:Int) by omega,lX (by omega),lX r.1];exact r.2.2.2.2
variable{col:Nat->Bool}{LA LB:Int}
theorem q6{N:Nat}{want:Int->Bool}{b8:Int->List Int}(hr:∀x:Nat,x<N->(x:Int)∈b8 x/\ ∀g∈b8 x,0<=g/\g<N):∀h,h<=N->
  (∀y:Nat,(bt N want b8 h).2.getD y false=true->∃l∈(bt N want b8 h).1,(y:Int)∈l)/\(∀x:Nat,x<h->want x=true->∃l∈(bt N want b8 h).1,(x:Int)∈l)
 |0,_=>by
  refine⟨fun y hy=>?_,fun x hx=>by omega⟩;simp only[bt]at hy;rw[zB,List.getElem?_replicate]at hy
  split at hy<;>simp at hy
 |h+1,hh=>by
  obtain⟨i1,i2⟩:=q6 hr h (by omega);have hln:=(I7 N want b8 h).1;simp only[bt,nR];by_cases hq:((bt N want b8 h).2.getD h false|| !want h)=true
  ·rw[zM hq];refine⟨i1,fun x hx hw=>?_⟩;by_cases hxh:x<h
   ·exact i2 x hxh hw
   ·obtain rfl:x=h:=by omega
    rw[hw]at hq;exact i1 x (by simpa using hq)
  ·rw[zL hq];have Ar:=hr h (by omega);refine⟨fun y hy=>?_,fun x hx hw=>?_⟩
   ·simp only at hy;rw[Ji _ _ _ (fun g hg=>by have:=Ar.2 g hg;omega),Bool.or_eq_true,decide_eq_true_iff]at hy;rcases hy with hy|hy
    ·obtain⟨l,h1,h2⟩:=i1 y hy;exact⟨l,by simp[h1],h2⟩
    ·exact⟨b8 h,by simp,hy⟩
   ·by_cases hxh:x<h
    ·obtain⟨l,h1,h2⟩:=i2 x hxh hw;exact⟨l,by simp[h1],h2⟩
    ·obtain rfl:x=h:=by omega
     exact⟨b8 x,by simp,Ar.1⟩
end
end Sp
set_option linter.unusedSectionVars false
namespace Sp
open Classical
section
variable{N:Nat}{si al si':Nat->Nat}
end
end Sp
section
variable{n:Nat}{f g:Nat->Nat}{m m':List Int}
end
def iX(x:Nat):Nat:=x-x % 4+(x % 4+1)% 4
section
variable{m m':List Int}{n L:Nat}
end
theorem FU(b:Bool)(c:Nat):bV b ((4*c:Nat):Int)=((if b then 4*c+3 else 4*c+1:Nat):Int)/\bV b ((4*c+1:Nat):Int)=((if b then 4*c+2 else 4*c:Nat):Int)/\bV b ((4*c+2:Nat):Int)=((if b then 4*c+1 else 4*c+3:Nat):Int)/\
  bV b ((4*c+3:Nat):Int)=((if b then 4*c else 4*c+2:Nat):Int):=by
 obtain⟨a0,a1,a2,a3,b0,b1,b2,b3⟩:=U4 c;cases b
 ·exact⟨b0,b1,b2,b3⟩
 ·exact⟨a0,a1,a2,a3⟩
theorem four(x:Nat):x=4*(x/4)\/x=4*(x/4)+1\/x=4*(x/4)+2\/x=4*(x/4)+3:=by omega
theorem ZZ(s:List Int)(c:Nat):aB s ((4*c:Nat):Int)=false/\aB s ((4*c+1:Nat):Int)=(s.getD c 0==1)/\aB s ((4*c+2:Nat):Int)=true/\aB s ((4*c+3:Nat):Int)=(s.getD c 0== -1):=by
 have e0:((4*c:Nat):Int)% 4=0:=by omega
 have e1:((4*c+1:Nat):Int)% 4=1:=by omega
 have e2:((4*c+2:Nat):Int)% 4=2:=by omega
 have e3:((4*c+3:Nat):Int)% 4=3:=by omega
 have d1:(((4*c+1:Nat):Int)/4).toNat=c:=by omega
 have d3:(((4*c+3:Nat):Int)/4).toNat=c:=by omega
 unfold aB;rw[e0,e1,e2,e3,d1,d3];simp
section
variable{s m:List Int}{L:Int}
end
namespace Hs
open Sp (cb ai bJ aS SC ae)
section
variable{s m:List Int}{L:Int}
theorem sL(v:Ed s m L){h:Nat}(hh:h<4*s.length):ae m h<4*s.length/\((ae m h:Nat):Int)=m.getD h 0/\aB s ((ae m h:Nat):Int)= !aB s (h:Int):=by
 obtain⟨h1,h2,h3,h4,h5⟩:=v.mt h hh;have e:((ae m h:Nat):Int)=m.getD h 0:=by unfold ae;omega
 refine⟨by omega,e,?_⟩;rw[e];revert h5;cases aB s (h:Int)<;>cases aB s (m.getD h 0)<;>simp
end
def bo(x c:Nat):Nat:=if c<x then c else c+1
theorem zd(x c:Nat):bo x c≠x:=by unfold bo;split<;>omega
section
variable{x:Nat}
end
end Hs
end Go.Proofs.YthohfoombimbeaaGreatDoor
