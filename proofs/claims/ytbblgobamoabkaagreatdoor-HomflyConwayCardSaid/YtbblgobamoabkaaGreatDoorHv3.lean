/- Plain: the sum of the absolute values of a polynomial's coefficients. -/
import Derived.Test.YtbblgobamoabkaaGreatDoorZu
namespace Go.Proofs.YtbblgobamoabkaaGreatDoor
open Sp
set_option linter.unusedSimpArgs false
set_option linter.unusedVariables false
def nL:List (Int×Int)->Nat
 |[]=>0
 |t::p=>t.2.natAbs+nL p
theorem yvk (e:Int): ∀q:List (Int×Int),(cfL q e).natAbs<=nL q
 |[]=>Nat.le_refl _
 |t::q=>by
  have ih:=yvk e q
  simp only [cfL,nL]
  split<;>omega
theorem yzb {t:Int×Int}: ∀{q:List (Int×Int)},t∈q->t.2.natAbs<=nL q
 |[],h=>by cases h
 |u::q,h=>by
  simp only [nL]
  rcases List.mem_cons.1 h with rfl|h
  ·omega
  ·have:=yzb h;omega
theorem yq5: ∀p q:List (Int×Int),nL (p++q)=nL p+nL q
 |[],q=>by simp [nL]
 |t::p,q=>by simp only [List.cons_append,nL,yq5 p q];omega
theorem y51 (i:Nat) (p:List (Int×Int)):nL (p.take i)<=nL p:=by
 conv=>rhs;rw [←List.take_append_drop i p,yq5]
 omega
theorem yvl (d k:Int) (hk:k.natAbs<=1): ∀p:List (Int×Int),nL (shL d k p)<=nL p
 |[]=>Nat.le_refl _
 |t::p=>by
  have ih:=yvl d k hk p
  have h1:(k*t.2).natAbs<=t.2.natAbs:=by
   rw [Int.natAbs_mul]
   calc k.natAbs*t.2.natAbs<=1*t.2.natAbs:=Nat.mul_le_mul_right _ hk
    _=t.2.natAbs:=Nat.one_mul _
  simp only [shL,List.map_cons,nL] at ih⊢
  omega
theorem yq6 (x:Int): ∀q:List (Int×Int),(cfL q x).natAbs+nL (q.filter fun t=>decide (t.1≠x))<=nL q
 |[]=>Nat.le_refl _
 |t::q=>by
  have ih:=yq6 x q
  simp only [cfL,List.filter_cons]
  by_cases h:t.1=x
  ·rw [if_pos h,if_neg (by simp [h])]
   simp only [nL];omega
  ·rw [if_neg h,if_pos (by simp [h])]
   simp only [nL];omega
theorem ytz (x e:Int): ∀q:List (Int×Int),cfL (q.filter fun t=>decide (t.1≠x)) e=if e=x then 0 else cfL q e
 |[]=>by simp [cfL]
 |t::q=>by
  have ih:=ytz x e q
  simp only [List.filter_cons]
  by_cases h:t.1=x
  ·rw [if_neg (by simp [h]),ih]
   by_cases he:e=x
   ·rw [if_pos he,if_pos he]
   ·rw [if_neg he,if_neg he]
    simp only [cfL]
    rw [if_neg (by omega),Int.zero_add]
  ·rw [if_pos (by simp [h])]
   simp only [cfL,ih]
   by_cases he:e=x
   ·rw [if_pos he,if_pos he,if_neg (by omega)];rfl
   ·rw [if_neg he,if_neg he]
theorem yzc: ∀(P Q:List (Int×Int)),P.Pairwise (fun a b=>a.1<b.1)->(∀e,cfL P e=cfL Q e)->nL P<=nL Q
 |[],Q,_,_=>Nat.zero_le _
 |t::P,Q,hp,h=>by
  have hp':=List.pairwise_cons.1 hp
  have h0:cfL P t.1=0:=ybj fun u hu he=>by have:=hp'.1 u hu;omega
  have hx:cfL Q t.1=t.2:=by
   rw [←h]
   simp only [cfL]
   rw [if_pos trivial,h0,Int.add_zero]
  have ih:=yzc P (Q.filter fun u=>decide (u.1≠t.1)) hp'.2 fun e=>by
   rw [ytz]
   by_cases he:e=t.1
   ·rw [if_pos he,he,h0]
   ·rw [if_neg he,←h]
    simp only [cfL]
    rw [if_neg (by omega),Int.zero_add]
  have hs:=yq6 t.1 Q
  rw [hx] at hs
  simp only [nL]
  omega
theorem yzd {P P1 P2:List (Int×Int)} {f f1 f2:Int->Int} {d1 d2 k:Int} (hP:yai P f) (h1:yai P1 f1) (h2:yai P2 f2) (hk:k.natAbs<=1) (hf: ∀e,f e=f1 (e-d1)+k*f2 (e-d2)):nL P<=nL P1+nL P2:=by
 have:=yzc P (shL d1 1 P1++shL d2 k P2) hP.asc.asc fun x=>by
  rw [ydu,ydz,ydz,hP.cf,h1.cf,h2.cf,hf,Int.one_mul]
 rw [yq5] at this
 have a:=yvl d1 1 (by decide) P1
 have b:=yvl d2 k hk P2
 omega
theorem y20: ∀(k:Nat),k<=400-> ∀P,yai P (Hs.XE (k+1))->nL P<=2^k
 |0,_,P,hP=>by
  obtain rfl:P=[(0,1)]:=hP.uniq Hs.XE_1
  decide
 |k+1,hk,P,hP=>by
  obtain ⟨Q,hQ⟩:=yby (Hs.XE_sup (k+1)) (by omega)
  have:=yzd (d1:=bvE (-1) (-1)) (d2:=bvE 1 (-1)) (k:= -1) hP hQ hQ (by decide) (fun e=>by rw [Hs.XE_S k (by omega)];omega)
  have ih:=y20 k (by omega) Q hQ
  rw [Nat.pow_succ]
  omega
def fc:Nat->Nat
 |0=>1
 |n+1=>(n+1)*fc n
theorem yze: ∀n,1<=fc n
 |0=>Nat.le_refl _
 |n+1=>Nat.mul_pos (by omega) (yze n)
theorem y52: ∀s m l,ybd s m l-> ∀P,yai P (hTr s m l)->2*nL P<=(bc s m+1)*(fc s.length*2^(l+4*s.length)):=by
 refine ye7 (fun s m l h hb P hP=>?_) fun s m l c l' h hb hc hsg hl' h1 e1 h2 e2 i1 i2 P hP=>?_
 ·have h3:=yb0 s m
  have h4:=(yas h.val).len
  have h5:=h.len
  have hn:=h.n14
  have hp:1<=l+(yaj s m).length:=by
   rcases h.pos with h5|h5
   ·have:=strands_pos (yas h.val) h5;omega
   ·omega
  have h7:2^(l+(yaj s m).length)<=2^(l+4*s.length):=Nat.pow_le_pow_right (by decide) (by omega)
  obtain ⟨k,hk⟩: ∃k,l+(yaj s m).length=k+1:=⟨l+(yaj s m).length-1,by omega⟩
  have hX:=y20 k (by omega) P (hP.congr fun e=>by rw [ye8 hb,hk])
  rw [hk,Nat.pow_succ] at h7
  have h9:2^(l+4*s.length)<=fc s.length*2^(l+4*s.length):=Nat.le_mul_of_pos_left _ (yze _)
  have h10:fc s.length*2^(l+4*s.length)<=(bc s m+1)*(fc s.length*2^(l+4*s.length)):=Nat.le_mul_of_pos_left _ (by omega)
  omega
 ·obtain ⟨_,_,d1,d2⟩:=yi9 h hb hc hl' h2 e2
  have hsm:=yep (m:=m) (b:=(s.getD c 0== -1)) (c:=c) (n:=s.length)
  have hlp:smLp s m c l=l+smL m (s.getD c 0== -1) c s.length:=rfl
  obtain ⟨d,hd⟩: ∃d,s.length=d+1:=⟨s.length-1,by omega⟩
  have e3:(smS s c).length=d:=by omega
  have t1:SupB (hTr (swS s c) (swM s m c) l) 400:=(yf6 _ _ _ h1).mono (by
   have:=bc_le (yas h1.val)
   have h9:=h1.n14
   have:=Nat.mul_le_mul h9 h9
   have e:((swS s c).length:Int)*(swS s c).length=(((swS s c).length*(swS s c).length:Nat):Int):=by rw [Int.natCast_mul]
   have:=h1.len
   rw [e];omega)
  have t2:SupB (hTr (smS s c) (smM s m c) l') 400:=(yf6 _ _ _ h2).mono (by
   have:=bc_le (yas h2.val)
   have h9:=h2.n14
   have:=Nat.mul_le_mul h9 h9
   have e:((smS s c).length:Int)*(smS s c).length=(((smS s c).length*(smS s c).length:Nat):Int):=by rw [Int.natCast_mul]
   have:=h2.len
   rw [e];omega)
  obtain ⟨P1,hP1⟩:=yby t1 (by decide)
  obtain ⟨P2,hP2⟩:=yby t2 (by decide)
  have hL:=yzd hP hP1 hP2 (k:=s.getD c 0) (by omega) (fun e=>ye9 h hb hc hl' h1 h2 e2 e)
  have j1:=i1 P1 hP1
  have j2:=i2 P2 hP2
  rw [e1,hd] at j1
  rw [e3] at j2 d2
  rw [hd]
  have k1:(bc (swS s c) (swM s m c)+1)*(fc (d+1)*2^(l+4*(d+1)))<=bc s m*(fc (d+1)*2^(l+4*(d+1))):=Nat.mul_le_mul_right _ d1
  have k2:(bc (smS s c) (smM s m c)+1)*(fc d*2^(l'+4*d))<=(d+1)*(fc d*2^(l+4*(d+1))):=
   Nat.mul_le_mul (by omega) (Nat.mul_le_mul_left _ (Nat.pow_le_pow_right (by decide) (by omega)))
  have k3:(d+1)*(fc d*2^(l+4*(d+1)))=fc (d+1)*2^(l+4*(d+1)):=by rw [←Nat.mul_assoc];rfl
  rw [k3] at k2
  have k4:(bc s m+1)*(fc (d+1)*2^(l+4*(d+1)))=bc s m*(fc (d+1)*2^(l+4*(d+1)))+fc (d+1)*2^(l+4*(d+1)):=by rw [Nat.add_mul,Nat.one_mul]
  rw [k4]
  omega
theorem y2g {s m:List Int} {l:Nat} (h:ybd s m l) (h6:s.length<=6) (h8:l<=8) {P:List (Int×Int)} (hP:yai P (hTr s m l)):nL P<=20000000000000:=by
 have hb:=bc_le (yas h.val)
 have h1:=y52 s m l h P hP
 have hf:fc s.length<=720:=by
  rcases (show s.length=0\/s.length=1\/s.length=2\/s.length=3\/s.length=4\/s.length=5\/s.length=6 by omega) with e|e|e|e|e|e|e<;>rw [e]<;>decide
 have h3:2^(l+4*s.length)<=2^32:=Nat.pow_le_pow_right (by decide) (by omega)
 have h4:=Nat.mul_le_mul (show bc s m+1<=7 by omega) (Nat.mul_le_mul hf h3)
 rw [show 7*(720*2^32)=21646635171840 from by decide] at h4
 omega
end Go.Proofs.YtbblgobamoabkaaGreatDoor
