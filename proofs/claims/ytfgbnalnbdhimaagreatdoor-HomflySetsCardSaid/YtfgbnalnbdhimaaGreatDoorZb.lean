/- Plain: coefficients by the tree of the resolution. -/
import Derived.Test.YtfgbnalnbdhimaaGreatDoorZa
namespace Go.Proofs.YtfgbnalnbdhimaaGreatDoor
open Sp
set_option linter.unusedSimpArgs false
set_option linter.unusedVariables false
def trF:Nat->List Int->List Int->Nat->Int->Int
 |0,_,_,_,_=>0
 |f+1,s,m,l,e=>match badO s m with
  |none=>Hs.XE (l+(yaq s m).length) e
  |some c=>trF f (swS s c.toNat) (swM s m c.toNat) l (e-bvE (2*s.getD c.toNat 0) 0)+s.getD c.toNat 0*trF f (smS s c.toNat) (smM s m c.toNat) (smLp s m c.toNat l).toNat (e-bvE (s.getD c.toNat 0) 1)
def muR (s m:List Int):Nat:=s.length*s.length+bc s m+1
def hTr (s m:List Int) (l:Nat):Int->Int:=trF (muR s m) s m l
theorem yl8 {s m:List Int} {l c l':Nat} (h:ybk s m l) (hb:badO s m=some (c:Int)) (hc:c<s.length) (hl':smLp s m c l=l') (h2:ybk (smS s c) (smM s m c) l') (e2:(smS s c).length+1=s.length):
  muR (swS s c) (swM s m c)+1<=muR s m/\muR (smS s c) (smM s m c)+1<=muR s m/\bc (swS s c) (swM s m c)+1<=bc s m/\bc (smS s c) (smM s m c)<=(smS s c).length:=by
 have hbs:=y1s h.val hc hb
 have hb2:=yjl (ya8 h2.val)
 have e1:(swS s c).length=s.length:=yc0 ..
 obtain ⟨d,hd⟩: ∃d,s.length=d+1:=⟨s.length-1,by omega⟩
 have hsq:s.length*s.length=d*d+2*d+1:=by rw [hd,Nat.add_mul,Nat.mul_add];omega
 have e3:(smS s c).length=d:=by omega
 unfold muR
 rw [e1,e3,hsq]
 rw [e3] at hb2
 omega
theorem yqs: ∀s m l,ybk s m l-> ∀f g,muR s m<=f->muR s m<=g-> ∀e,trF f s m l e=trF g s m l e:=by
 refine yg8 (fun s m l h hb f g hf hg e=>?_) fun s m l c l' h hb hc hsg hl' h1 e1 h2 e2 i1 i2 f g hf hg e=>?_
 ·have hm:1<=muR s m:=by unfold muR;omega
  obtain ⟨f,rfl⟩: ∃x,f=x+1:=⟨f-1,by omega⟩
  obtain ⟨g,rfl⟩: ∃x,g=x+1:=⟨g-1,by omega⟩
  unfold trF
  rw [hb]
 ·have hm:1<=muR s m:=by unfold muR;omega
  obtain ⟨d1,d2,_,_⟩:=yl8 h hb hc hl' h2 e2
  obtain ⟨f,rfl⟩: ∃x,f=x+1:=⟨f-1,by omega⟩
  obtain ⟨g,rfl⟩: ∃x,g=x+1:=⟨g-1,by omega⟩
  unfold trF
  rw [hb]
  dsimp only
  rw [Int.toNat_natCast,hl',Int.toNat_natCast,i1 f g (by omega) (by omega),i2 f g (by omega) (by omega)]
theorem yhz {s m:List Int} {l:Nat} (hb:badO s m=none) (e:Int):hTr s m l e=Hs.XE (l+(yaq s m).length) e:=by
 unfold hTr muR trF
 rw [hb]
theorem yh0 {s m:List Int} {l c l':Nat} (h:ybk s m l) (hb:badO s m=some (c:Int)) (hc:c<s.length) (hl':smLp s m c l=l') (h1:ybk (swS s c) (swM s m c) l) (h2:ybk (smS s c) (smM s m c) l') (e2:(smS s c).length+1=s.length) (e:Int):
  hTr s m l e=hTr (swS s c) (swM s m c) l (e-bvE (2*s.getD c 0) 0)+s.getD c 0*hTr (smS s c) (smM s m c) l' (e-bvE (s.getD c 0) 1):=by
 obtain ⟨d1,d2,_,_⟩:=yl8 h hb hc hl' h2 e2
 obtain ⟨f,hf⟩: ∃x,muR s m=x+1:=⟨s.length*s.length+bc s m,rfl⟩
 have e3:hTr s m l e=trF (f+1) s m l e:=by unfold hTr;rw [hf]
 rw [e3]
 unfold trF
 rw [hb]
 dsimp only
 rw [Int.toNat_natCast,hl',Int.toNat_natCast,yqs _ _ _ h1 f _ (by omega) (Nat.le_refl _),yqs _ _ _ h2 f _ (by omega) (Nat.le_refl _)]
 rfl
theorem y6f {s m:List Int} {l c l':Nat} (h:ybk s m l) (hc:c<s.length) (hl':smLp s m c l=l'):(smS s c).length+1=s.length:=by
 have hl:=h.len
 have hn:=h.n14
 have hsm:=yfl (m:=m) (b:=(s.getD c 0== -1)) (c:=c) (n:=s.length)
 have hlp:smLp s m c l=l+smL m (s.getD c 0== -1) c s.length:=rfl
 obtain ⟨v2,l2⟩:=yis h.val hc (by omega)
 omega
theorem SupB.sub {f:Int->Int} {N M a z:Int} (h:SupB f N) (ha: -M<=a/\a<=M) (hz: -M<=z/\z<=M) (hN:N<=1000) (hM:M<=1000) {e:Int} (he:f (e-bvE a z)≠0):(-(N+M)<=bvA e/\bvA e<=N+M)/\ -(N+M)<=bvZ e/\bvZ e<=N+M:=
 (h.shift ha hz (by omega) (by omega)) e he
theorem y4e: ∀s m l,ybk s m l->SupB (hTr s m l) (2*bc s m+s.length*s.length+4*s.length+l+1):=by
 refine yg8 (fun s m l h hb e he=>?_) fun s m l c l' h hb hc hsg hl' h1 e1 h2 e2 i1 i2 e he=>?_
 ·rw [yhz hb] at he
  have h1:=Hs.XE_sup _ e he
  have h3:=ycn s m
  have h4:=(ya8 h.val).len
  have h5:(0:Int)<=s.length*s.length:=by have:=Int.natCast_nonneg (s.length*s.length);rwa [Int.natCast_mul] at this
  omega
 ·obtain ⟨_,_,d1,d2⟩:=yl8 h hb hc hl' h2 e2
  rw [yh0 h hb hc hl' h1 h2 e2] at he
  have hsm:=yfl (m:=m) (b:=(s.getD c 0== -1)) (c:=c) (n:=s.length)
  have hlp:smLp s m c l=l+smL m (s.getD c 0== -1) c s.length:=rfl
  have hbl:=yjl (ya8 h.val)
  have hn:=h.n14
  have hl:=h.len
  obtain ⟨d,hd⟩: ∃d,s.length=d+1:=⟨s.length-1,by omega⟩
  have hsq:(s.length:Int)*s.length=(d:Int)*d+2*d+1:=by rw [hd,Int.natCast_add,Int.add_mul,Int.mul_add];simp;omega
  have e3:(smS s c).length=d:=by omega
  have hdd:(0:Int)<=(d:Int)*d:=by have:=Int.natCast_nonneg (d*d);rwa [Int.natCast_mul] at this
  have hdd2:(d:Int)*d<=64:=by have:=Nat.mul_le_mul (show d<=8 by omega) (show d<=8 by omega);exact_mod_cast this
  rw [e1] at i1
  rw [e3] at i2 d2
  by_cases hA:hTr (swS s c) (swM s m c) l (e-bvE (2*s.getD c 0) 0)=0
  ·have hB:hTr (smS s c) (smM s m c) l' (e-bvE (s.getD c 0) 1)≠0:=fun hB=>he (by rw [hA,hB,Int.mul_zero];rfl)
   have:=i2.sub (M:=1) (by omega) (by omega) (by omega) (by omega) hB
   omega
  ·have:=i1.sub (M:=2) (by omega) (by omega) (by omega) (by omega) hA
   omega
theorem y4f (k:Nat) (e:Int): -(2^(k-1):Int)<=Hs.XE k e/\Hs.XE k e<=2^(k-1):=by
 unfold Hs.XE Hs.Xh
 have h1:=Hs.dN_bnd (k-1) (bvA e-0)
 have h0:(0:Int)<2^(k-1):=Int.pow_pos (by decide)
 split
 ·exact h1
 ·omega
theorem y4g: ∀s m l,ybk s m l->s.length<=6-> ∀e,-((bc s m+1)*(6^s.length*2^(l+4*s.length)):Nat)<=2*hTr s m l e/\2*hTr s m l e<=((bc s m+1)*(6^s.length*2^(l+4*s.length)):Nat):=by
 refine yg8 (fun s m l h hb h6 e=>?_) fun s m l c l' h hb hc hsg hl' h1 e1 h2 e2 i1 i2 h6 e=>?_
 ·rw [yhz hb]
  have h1:=y4f (l+(yaq s m).length) e
  have h3:=ycn s m
  have h4:=(ya8 h.val).len
  have hp:1<=l+(yaq s m).length:=by
   rcases h.pos with h5|h5
   ·have:=strands_pos (ya8 h.val) h5;omega
   ·omega
  have h7:2^(l+(yaq s m).length)<=2^(l+4*s.length):=Nat.pow_le_pow_right (by decide) (by omega)
  obtain ⟨k,hk⟩: ∃k,l+(yaq s m).length=k+1:=⟨l+(yaq s m).length-1,by omega⟩
  rw [hk,Nat.add_sub_cancel] at h1
  rw [hk,Nat.pow_succ] at h7
  have h8:1<=6^s.length:=Nat.pow_pos (by decide)
  have h9:2^(l+4*s.length)<=6^s.length*2^(l+4*s.length):=Nat.le_mul_of_pos_left _ h8
  have h10:6^s.length*2^(l+4*s.length)<=(bc s m+1)*(6^s.length*2^(l+4*s.length)):=Nat.le_mul_of_pos_left _ (by omega)
  have h11:((2^k:Nat):Int)=2^k:=by rw [Int.natCast_pow];rfl
  rw [hk]
  generalize (bc s m+1)*(6^s.length*2^(l+4*s.length))=X at*
  generalize 6^s.length*2^(l+4*s.length)=Y at*
  generalize 2^(l+4*s.length)=Z at*
  rw [←h11] at h1
  generalize 2^k=W at*
  omega
 ·obtain ⟨_,_,d1,d2⟩:=yl8 h hb hc hl' h2 e2
  rw [yh0 h hb hc hl' h1 h2 e2]
  have hsm:=yfl (m:=m) (b:=(s.getD c 0== -1)) (c:=c) (n:=s.length)
  have hlp:smLp s m c l=l+smL m (s.getD c 0== -1) c s.length:=rfl
  obtain ⟨d,hd⟩: ∃d,s.length=d+1:=⟨s.length-1,by omega⟩
  have e3:(smS s c).length=d:=by omega
  have j1:=i1 (by omega) (e-bvE (2*s.getD c 0) 0)
  have j2:=i2 (by omega) (e-bvE (s.getD c 0) 1)
  rw [e1,hd] at j1
  rw [e3] at j2 d2
  rw [hd]
  have k1:(bc (swS s c) (swM s m c)+1)*(6^(d+1)*2^(l+4*(d+1)))<=bc s m*(6^(d+1)*2^(l+4*(d+1))):=Nat.mul_le_mul_right _ d1
  have k2:(bc (smS s c) (smM s m c)+1)*(6^d*2^(l'+4*d))<=6*(6^d*2^(l+4*(d+1))):=
   Nat.mul_le_mul (by omega) (Nat.mul_le_mul_left _ (Nat.pow_le_pow_right (by decide) (by omega)))
  have k3:6*(6^d*2^(l+4*(d+1)))=6^(d+1)*2^(l+4*(d+1)):=by rw [Nat.pow_succ 6 d,Nat.mul_comm (6^d) 6,Nat.mul_assoc]
  rw [k3] at k2
  have k4:(bc s m+1)*(6^(d+1)*2^(l+4*(d+1)))=bc s m*(6^(d+1)*2^(l+4*(d+1)))+6^(d+1)*2^(l+4*(d+1)):=by rw [Nat.add_mul,Nat.one_mul]
  rw [k4]
  generalize (bc (swS s c) (swM s m c)+1)*(6^(d+1)*2^(l+4*(d+1)))=X1 at*
  generalize (bc (smS s c) (smM s m c)+1)*(6^d*2^(l'+4*d))=X2 at*
  generalize bc s m*(6^(d+1)*2^(l+4*(d+1)))=Y1 at*
  generalize 6^(d+1)*2^(l+4*(d+1))=Y2 at*
  generalize hTr (swS s c) (swM s m c) l (e-bvE (2*s.getD c 0) 0)=u at*
  generalize hTr (smS s c) (smM s m c) l' (e-bvE (s.getD c 0) 1)=v at*
  rcases hsg with h|h<;>rw [h]<;>omega
theorem y1w:HomV 6 26 hTr where
 sup {s m l} h hM:=(y4e s m l h).mono (by
  have hb:=yjl (ya8 h.val)
  have:=Nat.mul_le_mul hM.1 hM.1
  have e:(s.length:Int)*s.length=((s.length*s.length:Nat):Int):=by rw [Int.natCast_mul]
  rw [e];omega)
 bnd {s m l} h hM e:=by
  have hb:=yjl (ya8 h.val)
  have h1:=y4g s m l h hM.1 e
  have h2:6^s.length<=6^6:=Nat.pow_le_pow_right (by decide) hM.1
  have h3:2^(l+4*s.length)<=2^32:=Nat.pow_le_pow_right (by decide) (by omega)
  have h4:=Nat.mul_le_mul (show bc s m+1<=7 by omega) (Nat.mul_le_mul h2 h3)
  rw [show 7*(6^6*2^32)=1402701959135232 from by decide] at h4
  generalize (bc s m+1)*(6^s.length*2^(l+4*s.length))=X at*
  omega
 desc h _ hb e:=yhz hb e
 step h _ hb hc hl' h1 h2 e:=yh0 h hb hc hl' h1 h2 (y6f h hc hl') e
end Go.Proofs.YtfgbnalnbdhimaaGreatDoor
namespace Go.Proofs.YtfgbnalnbdhimaaGreatDoor
set_option linter.unusedSimpArgs false
set_option linter.unusedVariables false
def insR:List (Int×Int)->Int×Int->List (Int×Int)
 |[],t=>[t]
 |u::l,t=>if u.1<t.1 then u::insR l t else if u.1=t.1 then (u.1,u.2+t.2)::l else t::u::l
theorem ytg (e:Int): ∀(l:List (Int×Int)) (t:Int×Int),cfL (insR l t) e=cfL l e+if t.1=e then t.2 else 0
 |[],t=>by simp only [insR,cfL];omega
 |u::l,t=>by
  simp only [insR]
  split
  ·simp only [cfL];rw [ytg e l t];omega
  ·split
   ·rename_i he
    simp only [cfL]
    by_cases h:t.1=e
    ·rw [if_pos (by omega),if_pos (by omega),if_pos h];omega
    ·rw [if_neg (by omega),if_neg (by omega),if_neg h];omega
   ·simp only [cfL];omega
theorem yth {u:Int×Int}: ∀{l:List (Int×Int)} {t:Int×Int},u∈insR l t->u∈l\/u.1=t.1
 |[],t,h=>by simp only [insR,List.mem_singleton] at h;exact .inr (by rw [h])
 |v::l,t,h=>by
  simp only [insR] at h
  split at h
  ·rcases List.mem_cons.1 h with rfl|h
   ·exact .inl (List.mem_cons_self ..)
   ·exact (yth h).imp (List.mem_cons_of_mem _) id
  ·split at h
   ·rename_i he
    rcases List.mem_cons.1 h with rfl|h
    ·exact .inr he
    ·exact .inl (List.mem_cons_of_mem _ h)
   ·rcases List.mem_cons.1 h with rfl|h
    ·exact .inr rfl
    ·exact .inl h
theorem yti: ∀{l:List (Int×Int)} (t:Int×Int),(l.Pairwise fun a b=>a.1<b.1)->(insR l t).Pairwise fun a b=>a.1<b.1
 |[],t,_=>by simp [insR]
 |u::l,t,h=>by
  have h':=List.pairwise_cons.1 h
  simp only [insR]
  split
  ·rename_i hu
   refine List.pairwise_cons.2 ⟨fun v hv=>?_,yti t h'.2⟩
   rcases yth hv with hv|hv
   ·exact h'.1 v hv
   ·omega
  ·split
   ·exact List.pairwise_cons.2 ⟨h'.1,h'.2⟩
   ·refine List.pairwise_cons.2 ⟨fun v hv=>?_,h⟩
    rcases List.mem_cons.1 hv with rfl|hv
    ·omega
    ·have:=h'.1 v hv;omega
def sumR:List (Int×Int)->List (Int×Int)
 |l=>l.foldl insR []
theorem yqt (Q:List (Int×Int)->List (Int×Int)->Prop) (h0:Q [] []) (hs: ∀l r t,Q l r->Q (l++[t]) (insR r t)) (l:List (Int×Int)):Q l (sumR l):=by
 have gen: ∀(l a r:List (Int×Int)),Q a r->Q (a++l) (l.foldl insR r):=by
  intro l
  induction l with
  |nil=>intro a r h;simpa using h
  |cons t l ih=>intro a r h;have:=ih (a++[t]) (insR r t) (hs a r t h);simpa using this
 exact gen l [] [] h0
theorem y1b (l:List (Int×Int)) (e:Int):cfL (sumR l) e=cfL l e:=by
 refine yqt (fun l r=>cfL r e=cfL l e) rfl (fun l r t h=>?_) l
 rw [ytg,h,yg3]
 simp only [cfL];omega
theorem y1c (l:List (Int×Int)):(sumR l).Pairwise fun a b=>a.1<b.1:=yqt (fun _ r=>r.Pairwise fun a b=>a.1<b.1) .nil (fun _ _ t h=>yti t h) l
theorem ytj {l:List (Int×Int)} {f:Int->Int} (h: ∀e,cfL l e=f e):yag (nz (sumR l)) f:=⟨ypm (y1c l),fun e=>by rw [ypl,y1b,h]⟩
end Go.Proofs.YtfgbnalnbdhimaaGreatDoor
namespace Go.Proofs.YtfgbnalnbdhimaaGreatDoor
open Sp
set_option linter.unusedSimpArgs false
set_option linter.unusedVariables false
set_option maxRecDepth 100000
def shL (d c:Int) (p:List (Int×Int)):List (Int×Int):=p.map fun t=>(t.1+d,c*t.2)
theorem yhb (d c:Int): ∀(p:List (Int×Int)) (e:Int),cfL (shL d c p) e=c*cfL p (e-d)
 |[],_=>by simp [shL,cfL]
 |t::p,e=>by
  have ih:=yhb d c p e
  simp only [shL,List.map_cons,cfL] at ih⊢
  rw [ih,Int.mul_add]
  by_cases h:t.1+d=e
  ·rw [if_pos h,if_pos (by omega)]
  ·rw [if_neg h,if_neg (by omega)];simp
def xeL:Nat->List (Int×Int)
 |0=>[(0,1)]
 |n+1=>nz (sumR (shL (bvE (-1) (-1)) 1 (xeL n)++shL (bvE 1 (-1)) (-1) (xeL n)))
theorem yx6: ∀n:Nat,n<=900->yag (xeL n) (Hs.XE (n+1))
 |0,_=>Hs.XE_1
 |n+1,h=>by
  have ih:=yx6 n (by omega)
  refine ytj fun e=>?_
  rw [yg3,yhb,yhb,ih.cf,ih.cf,Hs.XE_S n (by omega)]
  omega
def hmT:Nat->List Int->List Int->Nat->Option (List (Int×Int))
 |0,_,_,_=>none
 |f+1,s,m,l=>match badO s m with
  |none=>some (xeL (l+(yaq s m).length-1))
  |some c=>match hmT f (swS s c.toNat) (swM s m c.toNat) l,hmT f (smS s c.toNat) (smM s m c.toNat) (smLp s m c.toNat l).toNat with
   |some p,some q=>some (nz (sumR (shL (bvE (2*s.getD c.toNat 0) 0) 1 p++shL (bvE (s.getD c.toNat 0) 1) (s.getD c.toNat 0) q)))
   |_,_=>none
theorem yx7: ∀s m l,ybk s m l-> ∀f p,hmT f s m l=some p->yag p (hTr s m l):=by
 refine yg8 (fun s m l h hb f p hp=>?_) fun s m l c l' h hb hc hsg hl' h1 e1 h2 e2 i1 i2 f p hp=>?_
 ·cases f with
  |zero=>cases hp
  |succ f=>
   unfold hmT at hp
   rw [hb] at hp
   cases hp
   have h3:=ycn s m
   have h4:=(ya8 h.val).len
   have h5:=h.len
   have h6:1<=l+(yaq s m).length:=by
    rcases h.pos with h3|h3
    ·have:=strands_pos (ya8 h.val) h3;omega
    ·omega
   have:=yx6 (l+(yaq s m).length-1) (by omega)
   rw [Nat.sub_add_cancel h6] at this
   exact this.congr fun e=>(yhz hb e).symm
 ·cases f with
  |zero=>cases hp
  |succ f=>
   unfold hmT at hp
   rw [hb] at hp
   dsimp only at hp
   rw [Int.toNat_natCast,hl',Int.toNat_natCast] at hp
   split at hp
   ·rename_i p1 q1 g1 g2
    cases hp
    have j1:=i1 f p1 g1
    have j2:=i2 f q1 g2
    have hlen:=h.len
    have hl2:=h2.len
    refine ytj fun e=>?_
    rw [yg3,yhb,yhb,j1.cf,j2.cf,yh0 h hb hc hl' h1 h2 e2,Int.one_mul]
   ·cases hp
theorem y4h:yag [(bvE 2 0,2),(bvE 2 2,1),(bvE 4 0,-1)] (hTr [1,1,1] [9,4,7,10,1,8,11,2,5,0,3,6] 0):=
 yx7 _ _ _ ⟨by decide+kernel,by decide,by decide,by decide⟩ 20 _ (by decide+kernel)
theorem y6g:yag [(bvE (-1) (-1),1),(bvE 1 (-1),-1)] (hTr [] [] 2):=
 yx7 _ _ _ ⟨by decide+kernel,by decide,by decide,by decide⟩ 20 _ (by decide+kernel)
end Go.Proofs.YtfgbnalnbdhimaaGreatDoor
