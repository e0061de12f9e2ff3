/- Plain: the representatives of merge are those of the circles. -/
import Derived.Test.YtcnilhcplgiidaaDoorZj
import Derived.Test.YtcnilhcplgiidaaDoorZe
set_option linter.unusedSimpArgs false
set_option linter.unusedVariables false
namespace Go.Proofs.YtcnilhcplgiidaaDoor
theorem ywy (k:Nat):jnB true ((4*k:Nat):Int)=((4*k+3:Nat):Int)/\jnB true ((4*k+1:Nat):Int)=((4*k+2:Nat):Int)/\jnB true ((4*k+2:Nat):Int)=((4*k+1:Nat):Int)/\jnB true ((4*k+3:Nat):Int)=((4*k:Nat):Int)/\
  jnB false ((4*k:Nat):Int)=((4*k+1:Nat):Int)/\jnB false ((4*k+1:Nat):Int)=((4*k:Nat):Int)/\jnB false ((4*k+2:Nat):Int)=((4*k+3:Nat):Int)/\jnB false ((4*k+3:Nat):Int)=((4*k+2:Nat):Int):=by
 have o: ∀x:Int,x % 2=1->jnB true x=x-x % 4+(x % 4+5)% 4/\jnB false x=x-x % 4+(x % 4+3)% 4:=fun x h=>by
  unfold jnB;rw [ydl,ycg,decide_eq_true h];exact ⟨if_pos rfl,if_neg (by simp)⟩
 have e: ∀x:Int,¬x % 2=1->jnB true x=x-x % 4+(x % 4+3)% 4/\jnB false x=x-x % 4+(x % 4+5)% 4:=fun x h=>by
  unfold jnB;rw [ydl,ycg,decide_eq_false h];exact ⟨if_neg (by simp),if_pos rfl⟩
 rw [(e _ (by omega)).1,(o _ (by omega)).1,(e _ (by omega)).1,(o _ (by omega)).1,(e _ (by omega)).2,(o _ (by omega)).2,(e _ (by omega)).2,(o _ (by omega)).2]
 omega
theorem yza {m:List Int} {n:Nat} (hp:yb0 m n) (hmm: ∀x:Nat,x<4*n->m.getD (m.getD x 0).toNat 0=x) (hmf: ∀x:Nat,x<4*n->m.getD x 0≠x) (ch:Nat->Bool):Inv2 n (fun x=>m.getD x.toNat 0) (fun x=>jnB (ch (x/4).toNat) x):=by
 have hml:=hp.1
 refine ⟨fun x hx=>?_,fun x hx=>?_,fun x hx=>?_,fun x hx=>?_,fun x hx=>?_,fun x _=>ym6 _ x⟩
 ·unfold InR at*
  have:=hp.2 x.toNat (by omega)
  omega
 ·unfold InR at*
  have h1:=ybi (ch (x/4).toNat) x
  omega
 ·unfold InR at hx
  have:=hmm x.toNat (by omega)
  show m.getD (m.getD x.toNat 0).toNat 0=x
  rw [this];omega
 ·show jnB (ch (jnB (ch (x/4).toNat) x/4).toNat) (jnB (ch (x/4).toNat) x)=x
  rw [ybi,yb4]
 ·unfold InR at hx
  have:=hmf x.toNat (by omega)
  show m.getD x.toNat 0≠x
  omega
section
variable {n:Nat} {mt jn:Int->Int} {R:List Int}
end
section
variable {m:List Int} {n:Nat} {ch:Nat->Bool}
end
end Go.Proofs.YtcnilhcplgiidaaDoor
namespace Go.Proofs.YtcnilhcplgiidaaDoor
set_option linter.unusedSimpArgs false
set_option linter.unusedVariables false
def sm (f:Nat->Int):Nat->Int
 |0=>0
 |n+1=>sm f n+f n
theorem ybz {f g:Nat->Int}: ∀{n:Nat},(∀x,x<n->f x=g x)->sm f n=sm g n
 |0,_=>rfl
 |n+1,h=>by simp only [sm];rw [ybz fun x hx=>h x (by omega),h n (by omega)]
theorem yke (f g:Nat->Int): ∀n,sm (fun x=>f x+g x) n=sm f n+sm g n
 |0=>rfl
 |n+1=>by simp only [sm];rw [yke f g n];omega
theorem ykf (c:Int) (f:Nat->Int): ∀n,sm (fun x=>c*f x) n=c*sm f n
 |0=>by simp [sm]
 |n+1=>by simp only [sm];rw [ykf c f n,Int.mul_add]
theorem yd9 (c:Int): ∀n:Nat,sm (fun _=>c) n=c*n
 |0=>by simp [sm]
 |n+1=>by simp only [sm];rw [yd9 c n,Int.natCast_add,Int.mul_add];simp
theorem ynv (f:Nat->Int) (a:Nat): ∀b,sm f (a+b)=sm f a+sm (fun x=>f (a+x)) b
 |0=>by simp [sm]
 |b+1=>by rw [←Nat.add_assoc];simp only [sm];rw [ynv f a b];omega
theorem yps (f:Nat->Int): ∀n,sm f n=((List.range n).map f).sum
 |0=>rfl
 |n+1=>by rw [List.range_succ,List.map_append,List.sum_append_int,←yps f n];simp [sm]
theorem yho {l:List Nat} {f:Nat->Nat} (h: ∀x∈l,∀y∈l,f x=f y->x=y) (hn:l.Nodup):(l.map f).Nodup:=by
 rw [List.nodup_iff_pairwise_ne,List.pairwise_map]
 exact List.Pairwise.imp_of_mem (fun ha hb hne e=>hne (h _ ha _ hb e)) (List.nodup_iff_pairwise_ne.1 hn)
inductive Con4 (mt jn:Int->Int) (c:Int):Int->Int->Prop
 |refl (x:Int):Con4 mt jn c x x
 |mate {x y:Int} (h:Con4 mt jn c x y):Con4 mt jn c x (mt y)
 |join {x y:Int} (h:Con4 mt jn c x y) (hy:y/4≠c):Con4 mt jn c x (jn y)
 |any {x y z:Int} (h:Con4 mt jn c x y) (hy:y/4=c) (hz:z/4=c):Con4 mt jn c x z
theorem Con4.trans {mt jn:Int->Int} {c x y z:Int} (h1:Con4 mt jn c x y) (h2:Con4 mt jn c y z):Con4 mt jn c x z:=by
 induction h2 with
 |refl=>exact h1
 |mate _ ih=>exact .mate ih
 |join _ hy ih=>exact .join ih hy
 |any _ hy hz ih=>exact .any ih hy hz
section
variable {n:Nat} {mt jn:Int->Int} {c:Nat}
end
def pr3:Nat->Int->Int
 |0,x=>jnB false x
 |1,x=>jnB true x
 |_,x=>x-x % 4+(x % 4+2)% 4
theorem ynw (c:Int):pr3 0 (4*c)=4*c+1/\pr3 0 (4*c+1)=4*c/\pr3 0 (4*c+2)=4*c+3/\pr3 0 (4*c+3)=4*c+2/\
  pr3 1 (4*c)=4*c+3/\pr3 1 (4*c+1)=4*c+2/\pr3 1 (4*c+2)=4*c+1/\pr3 1 (4*c+3)=4*c/\
  pr3 2 (4*c)=4*c+2/\pr3 2 (4*c+1)=4*c+3/\pr3 2 (4*c+2)=4*c/\pr3 2 (4*c+3)=4*c+1:=by
 have o: ∀x:Int,x % 2=1->jnB true x=x-x % 4+(x % 4+5)% 4/\jnB false x=x-x % 4+(x % 4+3)% 4:=fun x h=>by
  unfold jnB;rw [ydl,ycg,decide_eq_true h];exact ⟨if_pos rfl,if_neg (by simp)⟩
 have e: ∀x:Int,¬x % 2=1->jnB true x=x-x % 4+(x % 4+3)% 4/\jnB false x=x-x % 4+(x % 4+5)% 4:=fun x h=>by
  unfold jnB;rw [ydl,ycg,decide_eq_false h];exact ⟨if_neg (by simp),if_pos rfl⟩
 simp only [pr3]
 rw [(e _ (by omega)).1,(o _ (by omega)).1,(e _ (by omega)).1,(o _ (by omega)).1,(e _ (by omega)).2,(o _ (by omega)).2,(e _ (by omega)).2,(o _ (by omega)).2]
 omega
theorem ye9 (t:Nat) (x:Int):pr3 t x/4=x/4:=by
 unfold pr3
 split
 ·exact ybi _ _
 ·exact ybi _ _
 ·omega
theorem ypt: ∀(t:Nat) (x:Int),pr3 t (pr3 t x)=x
 |0,x=>yb4 _ _
 |1,x=>yb4 _ _
 |t+2,x=>by simp only [pr3];omega
theorem y0j (t:Nat) (x:Int):pr3 t x≠x:=by
 unfold pr3
 split
 ·exact ym6 _ _
 ·exact ym6 _ _
 ·omega
def st3 (s:Nat->Nat) (x:Int):Int:=pr3 (s (x/4).toNat) x
theorem yc8 {n:Nat} {m:List Int} (hp:yb0 m n) (hmm: ∀x:Nat,x<4*n->m.getD (m.getD x 0).toNat 0=x) (hmf: ∀x:Nat,x<4*n->m.getD x 0≠x) (s:Nat->Nat):Inv2 n (fun x=>m.getD x.toNat 0) (st3 s):=by
 have h:=yza hp hmm hmf (fun _=>false)
 refine ⟨h.mr,fun x hx=>?_,h.mm,fun x hx=>?_,h.mf,fun x _=>y0j _ _⟩
 ·have:=ye9 (s (x/4).toNat) x
  unfold InR st3 at*;omega
 ·unfold st3;rw [ye9,ypt]
def cir3 (m:List Int) (n:Nat) (s:Nat->Nat):Nat:=roots (crN (fun x=>m.getD x.toNat 0) (st3 s) (4*n) (4*n))
end Go.Proofs.YtcnilhcplgiidaaDoor
set_option linter.unusedSimpArgs false
set_option linter.unusedVariables false
namespace Go.Proofs.YtcnilhcplgiidaaDoor
def cfL:List (Int×Int)->Int->Int
 |[],_=>0
 |t::p,e=>(if t.1=e then t.2 else 0)+cfL p e
structure AscN (p:List (Int×Int)):Prop where
 asc:p.Pairwise fun a b=>a.1<b.1
 nz: ∀t∈p,t.2≠0
theorem ynx {p:List (Int×Int)} {e:Int} (h: ∀t∈p,t.1≠e):cfL p e=0:=by
 induction p with
 |nil=>rfl
 |cons t p ih=>
  simp only [cfL]
  rw [if_neg (h t (List.mem_cons_self ..)),ih fun u hu=>h u (List.mem_cons_of_mem _ hu)];rfl
theorem AscN.tail {t:Int×Int} {p:List (Int×Int)} (h:AscN (t::p)):AscN p:=⟨(List.pairwise_cons.1 h.asc).2,fun u hu=>h.nz u (List.mem_cons_of_mem _ hu)⟩
theorem AscN.head {t:Int×Int} {p:List (Int×Int)} (h:AscN (t::p)): ∀u∈p,t.1<u.1:=(List.pairwise_cons.1 h.asc).1
theorem AscN.nil:AscN []:=⟨.nil,fun _ h=>by cases h⟩
theorem yfa {p:List (Int×Int)} (h:AscN p) {t:Int×Int} (ht:t∈p):cfL p t.1=t.2:=by
 induction p with
 |nil=>cases ht
 |cons u p ih=>
  simp only [cfL]
  rcases List.mem_cons.1 ht with rfl|ht
  ·rw [if_pos rfl,ynx fun v hv=>by have:=h.head v hv;omega];omega
  ·rw [if_neg (by have:=h.head t ht;omega),ih h.tail ht];omega
theorem ytw {p:List (Int×Int)} {e:Int} (h:cfL p e≠0): ∃t∈p,t.1=e:=by
 induction p with
 |nil=>exact absurd rfl h
 |cons t p ih=>
  by_cases ht:t.1=e
  ·exact ⟨t,List.mem_cons_self ..,ht⟩
  ·simp only [cfL,if_neg ht,Int.zero_add] at h
   obtain ⟨u,hu,e2⟩:=ih h
   exact ⟨u,List.mem_cons_of_mem _ hu,e2⟩
theorem AscN.ext: ∀{p q:List (Int×Int)},AscN p->AscN q->(∀e,cfL p e=cfL q e)->p=q
 |[],[],_,_,_=>rfl
 |[],t::q,_,hq,h=>by
  have:=h t.1
  rw [yfa hq (List.mem_cons_self ..)] at this
  exact absurd this.symm (hq.nz t (List.mem_cons_self ..))
 |t::p,[],hp,_,h=>by
  have:=h t.1
  rw [yfa hp (List.mem_cons_self ..)] at this
  exact absurd this (hp.nz t (List.mem_cons_self ..))
 |t::p,u::q,hp,hq,h=>by
  have m1:cfL (t::p) t.1=t.2:=yfa hp (List.mem_cons_self ..)
  have m2:cfL (u::q) u.1=u.2:=yfa hq (List.mem_cons_self ..)
  have n1:=hp.nz t (List.mem_cons_self ..)
  have n2:=hq.nz u (List.mem_cons_self ..)
  have e1:t.1=u.1:=by
   obtain ⟨v,hv,ev⟩:=ytw (p:=u::q) (e:=t.1) (by rw [←h,m1];exact n1)
   obtain ⟨w,hw,ew⟩:=ytw (p:=t::p) (e:=u.1) (by rw [h,m2];exact n2)
   rcases List.mem_cons.1 hv with rfl|hv
   ·exact ev.symm
   ·rcases List.mem_cons.1 hw with rfl|hw
    ·exact ew
    ·have:=hq.head v hv
     have:=hp.head w hw
     omega
  have e2:t.2=u.2:=by rw [←m1,←m2,h,e1]
  have et:t=u:=Prod.ext e1 e2
  subst et
  rw [AscN.ext hp.tail hq.tail fun e=>by have:=h e;simp only [cfL] at this;omega]
theorem yk0 {p:List (Int×Int)} {i:Nat} (hi:i<p.length):p.getD i (0,0)∈p:=by
 simp [List.getD_eq_getElem?_getD,List.getElem?_eq_getElem hi]
end Go.Proofs.YtcnilhcplgiidaaDoor
namespace Go.Proofs.YtcnilhcplgiidaaDoor
set_option linter.unusedSimpArgs false
set_option linter.unusedVariables false
section
variable {K:Nat} {c:Nat->Nat} {w:Nat->Int}
end
theorem AscN.len {p:List (Int×Int)} (h:AscN p): ∀{a b:Int},(∀t∈p,a<=t.1/\t.1<=b)->(p.length:Int)<=max 0 (b-a+1):=by
 induction p with
 |nil=>intro a b _;simp;omega
 |cons t p ih=>
  intro a b hb
  have h1:=hb t (List.mem_cons_self ..)
  have:=ih h.tail (a:=t.1+1) (b:=b) fun u hu=>by
   have h2:=h.head u hu
   have h3:=hb u (List.mem_cons_of_mem _ hu)
   omega
  simp only [List.length_cons]
  omega
end Go.Proofs.YtcnilhcplgiidaaDoor
namespace Go.Proofs.YtcnilhcplgiidaaDoor
set_option linter.unusedSimpArgs false
set_option linter.unusedVariables false
structure PmOk (m:List Int) (n:Nat):Prop where
 ok:yb0 m n
 inv: ∀x:Nat,x<4*n->m.getD (m.getD x 0).toNat 0=x
 ne: ∀x:Nat,x<4*n->m.getD x 0≠x
theorem pmOk {s m:List Int} {L:Int} (h:yaj s m L=true):PmOk m s.length:=by
 have v:=yat h
 refine ⟨v.prd.ok,v.prd.inv,fun x hx=>?_⟩
 have:=v.mt x hx
 omega
def nb01 (b:Bool):Nat:=if b then 1 else 0
section
variable {m:List Int} {n:Nat} (hp:PmOk m n)
include hp
theorem ygd (s:Nat->Nat):CirR n (fun x=>m.getD x.toNat 0) (st3 s) (crN (fun x=>m.getD x.toNat 0) (st3 s) (4*n) (4*n)):=y1k (yc8 hp.ok hp.inv hp.ne s)
end
def chB (b:Nat) (c:Nat):Bool:=b/2^c % 2==1
section
variable {m:List Int} {n L:Nat} (hp:PmOk m n)
include hp
end
theorem yny {f:Nat->Int} {a:Nat}: ∀{n:Nat},a<n->(∀x,x<n->x≠a->f x=0)->sm f n=f a
 |n+1,ha,h=>by
  simp only [sm]
  by_cases e:a=n
  ·subst e
   rw [ybz (g:=fun _=>0) fun x hx=>h x (by omega) (by omega),yd9];omega
  ·rw [yny (n:=n) (by omega) fun x hx hne=>h x (by omega) hne,h n (by omega) (by omega)];omega
end Go.Proofs.YtcnilhcplgiidaaDoor
namespace Go.Proofs.YtcnilhcplgiidaaDoor
set_option linter.unusedSimpArgs false
set_option linter.unusedVariables false
theorem ytx {l k:List Nat} (hn:l.Nodup) (Q:Nat->Nat->Prop) (h: ∀x∈l,∃y∈k,Q x y) (hi: ∀x x' y,x∈l->x'∈l->Q x y->Q x' y->x=x'):l.length<=k.length:=by
 have hc: ∀x:Nat,∃y,x∈l->y∈k/\Q x y:=fun x=>by
  by_cases hx:x∈l
  ·obtain ⟨y,h1,h2⟩:=h x hx;exact ⟨y,fun _=>⟨h1,h2⟩⟩
  ·exact ⟨0,fun h=>absurd h hx⟩
 have hf:=fun x=>Classical.choose_spec (hc x)
 have:l.length=(l.map fun x=>Classical.choose (hc x)).length:=by simp
 rw [this]
 refine ybk (yho (fun x hx y hy e=>?_) hn) fun y hy=>?_
 ·have a:=(hf x hx).2
  have b:=(hf y hy).2
  rw [e] at a
  exact hi x y _ hx hy a b
 ·obtain ⟨x,hx,rfl⟩:=List.mem_map.1 hy
  exact (hf x hx).1
theorem yk1 (f:Nat->Int) (a:Nat): ∀b,sm f (a*b)=sm (fun k2=>sm (fun k1=>f (a*k2+k1)) a) b
 |0=>rfl
 |b+1=>by rw [Nat.mul_succ,ynv,yk1 f a b];rfl
end Go.Proofs.YtcnilhcplgiidaaDoor
