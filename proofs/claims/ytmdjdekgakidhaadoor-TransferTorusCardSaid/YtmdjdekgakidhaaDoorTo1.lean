/- Plain: the greedy order of the crossings; the width of an order. -/
import Derived.Test.YtmdjdekgakidhaaDoorZa
namespace Go.Proofs.YtmdjdekgakidhaaDoor
set_option linter.unusedVariables false
set_option linter.unusedSimpArgs false
def eN (m:List Int) (out:List Int) (c:Nat):Nat->Nat
 |0=>0
 |s+1=>eN m out c s+if m.getD (4*c+s) 0/4∈out then 1 else 0
theorem y0b (m out:List Int) (c:Nat): ∀s,eN m out c s<=s
 |0=>Nat.le_refl _
 |s+1=>by have:=y0b m out c s;simp only [eN];split<;>omega
def bsN (m out:List Int):Nat->Int
 |0=> -1
 |c+1=>if (c:Int)∈out then bsN m out c else if bsN m out c<0\/eN m out (bsN m out c).toNat 4<eN m out c 4 then (c:Int) else bsN m out c
def orN (m:List Int) (n:Nat):Nat->List Int
 |0=>[]
 |k+1=>orN m n k++[bsN m (orN m n k) n]
theorem ymp (m:List Int) (n:Nat): ∀k,(orN m n k).length=k
 |0=>rfl
 |k+1=>by simp [orN,ymp m n k]
theorem ymq (m out:List Int): ∀c,-1<=bsN m out c/\bsN m out c<c
 |0=>by simp [bsN]
 |c+1=>by
  have:=ymq m out c
  simp only [bsN]
  split
  ·omega
  ·split<;>omega
theorem yry (m out:List Int): ∀c,0<=bsN m out c->bsN m out c∉out
 |0=>by simp [bsN]
 |c+1=>by
  have:=yry m out c
  simp only [bsN]
  split
  ·exact this
  ·split
   ·rename_i h _;exact fun _=>h
   ·exact this
theorem yrz (m out:List Int): ∀c,bsN m out c<0-> ∀x:Nat,x<c->(x:Int)∈out
 |0,_,x,hx=>by omega
 |c+1,h,x,hx=>by
  simp only [bsN] at h
  split at h
  ·rename_i hc
   by_cases e:x=c
   ·rw [e];exact hc
   ·exact yrz m out c h x (by omega)
  ·split at h
   ·omega
   ·rename_i h2;exact absurd (.inl h) h2
structure PrmL (n:Nat) (o:List Int):Prop where
 nd:o.Nodup
 rg: ∀x∈o,0<=x/\x<n
theorem ymr {l k:List Int} (hl:l.Nodup) (h: ∀x∈l,x∈k):l.length<=k.length:=by
 induction l generalizing k with
 |nil=>exact Nat.zero_le _
 |cons x l ih=>
  have hx:=h x (List.mem_cons_self ..)
  have hn:=List.nodup_cons.1 hl
  have:=ih (k:=k.erase x) hn.2 fun y hy=>by
   have hne:y≠x:=fun e=>hn.1 (e▸hy)
   exact (List.mem_erase_of_ne hne).2 (h y (List.mem_cons_of_mem _ hy))
  rw [List.length_erase_of_mem hx] at this
  have:=List.length_pos_of_mem hx
  simp only [List.length_cons];omega
theorem yr0 (m:List Int) (n:Nat): ∀k,k<=n->PrmL n (orN m n k)
 |0,_=>⟨by simp [orN],by simp [orN]⟩
 |k+1,hk=>by
  have ih:=yr0 m n k (by omega)
  have h0:0<=bsN m (orN m n k) n:=by
   rcases Int.lt_or_le (bsN m (orN m n k) n) 0 with h|h
   ·exfalso
    have h1:=yrz m (orN m n k) n h
    have h2:=ymr (l:=(List.range n).map (Nat.cast:Nat->Int)) (k:=orN m n k) (by
     rw [List.nodup_iff_pairwise_ne,List.pairwise_map]
     exact (List.nodup_iff_pairwise_ne.1 List.nodup_range).imp fun h e=>h (by omega)) (fun x hx=>by
     obtain ⟨y,hy,rfl⟩:=List.mem_map.1 hx
     exact h1 y (List.mem_range.1 hy))
    rw [ymp] at h2
    simp at h2
    omega
   ·exact h
  have h1:=ymq m (orN m n k) n
  have h2:=yry m (orN m n k) n h0
  simp only [orN]
  refine ⟨?_,fun x hx=>?_⟩
  ·rw [List.nodup_append]
   refine ⟨ih.nd,by simp,fun x hx y hy e=>?_⟩
   simp only [List.mem_cons,List.not_mem_nil,or_false] at hy
   exact h2 (hy▸e▸hx)
  ·rcases List.mem_append.1 hx with h|h
   ·exact ih.rg x h
   ·simp only [List.mem_cons,List.not_mem_nil,or_false] at h
    subst h;exact ⟨h0,h1.2⟩
def ctS (m:List Int) (l:List Int) (c:Int):Nat->Int
 |0=>0
 |s+1=>ctS m l c s+if m.getD (4*c+s).toNat 0/4=c then 0 else if m.getD (4*c+s).toNat 0/4∈l then-1 else 1
def ctN (m o:List Int):Nat->Int
 |0=>0
 |k+1=>ctN m o k+ctS m (o.take k) (o.getD k 0) 4
def wdN (m o:List Int):Nat->Int
 |0=>0
 |k+1=>max (wdN m o k) (ctN m o (k+1))
theorem yi9 (m l:List Int) (c:Int): ∀s:Nat,-(s:Int)<=ctS m l c s/\ctS m l c s<=s
 |0=>by simp [ctS]
 |s+1=>by
  have:=yi9 m l c s
  simp only [ctS]
  split
  ·omega
  ·split<;>omega
theorem yms (m o:List Int): ∀k:Nat,-(4*(k:Int))<=ctN m o k/\ctN m o k<=4*k
 |0=>by simp [ctN]
 |k+1=>by
  have h1:=yms m o k
  have h2:=yi9 m (o.take k) (o.getD k 0) 4
  simp only [ctN];omega
def rfC (m l:List Int):List Int->Int
 |[]=>0
 |c::r=>rfC m l r+(4-(eN m l c.toNat 4:Int))
def insN (m:List Int) (c:Int):List Int->Int
 |[]=>0
 |x::r=>insN m c r+(if m.getD (4*x.toNat) 0/4=c then 1 else 0)+(if m.getD (4*x.toNat+1) 0/4=c then 1 else 0)+(if m.getD (4*x.toNat+2) 0/4=c then 1 else 0)+(if m.getD (4*x.toNat+3) 0/4=c then 1 else 0)
theorem yr1 {m l:List Int} {c:Int} (hc:c∉l) (x:Nat):(eN m (l++[c]) x 4:Int)=eN m l x 4+(if m.getD (4*x) 0/4=c then 1 else 0)+(if m.getD (4*x+1) 0/4=c then 1 else 0)+(if m.getD (4*x+2) 0/4=c then 1 else 0)+(if m.getD (4*x+3) 0/4=c then 1 else 0):=by
 have key: ∀y:Int,(if y∈l++[c] then 1 else 0:Nat)=(if y∈l then 1 else 0:Nat)+if y=c then 1 else 0:=fun y=>by
  by_cases h:y=c
  ·subst h;simp [hc]
  ·simp [h]
 simp only [eN,key,Nat.add_zero]
 have kc: ∀p:Prop,[Decidable p]->(((if p then 1 else 0:Nat):Nat):Int)=if p then 1 else 0:=fun p _=>by split<;>rfl
 simp only [Int.natCast_add,kc]
 omega
theorem ype {m l:List Int} {c:Int} (hc:c∉l): ∀r:List Int,rfC m (l++[c]) r=rfC m l r-insN m c r
 |[]=>rfl
 |x::r=>by
  simp only [rfC,insN,ype hc r,yr1 hc]
  omega
theorem yr2 (m l:List Int) (c:Int): ∀r:List Int,rfC m l (r++[c])=rfC m l r+(4-(eN m l c.toNat 4:Int))
 |[]=>by simp [rfC]
 |x::r=>by rw [List.cons_append];simp only [rfC,yr2 m l c r];omega
def indL (l:List Int) (h:Int):Int:=if h/4∈l then 1 else 0
theorem yvt {m:List Int} {n:Nat} (hp:yba m n) (hi: ∀x:Nat,x<4*n->m.getD (m.getD x 0).toNat 0=x) {c:Nat} (hc:c<n): ∀l:List Int,PrmL n l->insN m c l=indL l (m.getD (4*c) 0)+indL l (m.getD (4*c+1) 0)+indL l (m.getD (4*c+2) 0)+indL l (m.getD (4*c+3) 0)
 |[],_=>by simp [insN,indL]
 |x::r,h=>by
  have hn:=List.nodup_cons.1 h.nd
  have ih:=yvt hp hi hc r ⟨hn.2,fun y hy=>h.rg y (List.mem_cons_of_mem _ hy)⟩
  have hx:=h.rg x (List.mem_cons_self ..)
  have key: ∀y:Int,indL (x::r) y=indL r y+if y/4=x then 1 else 0:=fun y=>by
   unfold indL
   by_cases e:y/4=x
   ·rw [if_pos (by rw [e];exact List.mem_cons_self ..),if_neg (by rw [e];exact hn.1),if_pos e];rfl
   ·rw [if_neg e]
    by_cases e2:y/4∈r
    ·rw [if_pos (List.mem_cons_of_mem _ e2),if_pos e2];rfl
    ·rw [if_neg (fun g=>by rcases List.mem_cons.1 g with g|g;exact e g;exact e2 g),if_neg e2];rfl
  simp only [insN,key,ih]
  have r0:=fun (s:Nat) (hs:s<4)=>hp.2 (4*x.toNat+s) (by omega)
  have r1:=fun (t:Nat) (ht:t<4)=>hp.2 (4*c+t) (by omega)
  have i0:=fun (s:Nat) (hs:s<4)=>hi (4*x.toNat+s) (by omega)
  have i1:=fun (t:Nat) (ht:t<4)=>hi (4*c+t) (by omega)
  have a: ∀s t:Nat,s<4->t<4->(m.getD (4*x.toNat+s) 0=4*(c:Int)+t↔m.getD (4*c+t) 0=4*x+s):=fun s t hs ht=>by
   constructor
   ·intro e
    have:=i0 s hs
    rw [e,show (4*(c:Int)+t).toNat=4*c+t by omega] at this
    omega
   ·intro e
    have:=i1 t ht
    rw [e,show (4*x+(s:Int)).toNat=4*x.toNat+s by omega] at this
    omega
  have b: ∀s:Nat,s<4->(if m.getD (4*x.toNat+s) 0/4=(c:Int) then (1:Int) else 0)=(if m.getD (4*c) 0=4*x+s then 1 else 0)+(if m.getD (4*c+1) 0=4*x+s then 1 else 0)+(if m.getD (4*c+2) 0=4*x+s then 1 else 0)+(if m.getD (4*c+3) 0=4*x+s then 1 else 0):=fun s hs=>by
   have a0:=a s 0 hs (by omega)
   have a1:=a s 1 hs (by omega)
   have a2:=a s 2 hs (by omega)
   have a3:=a s 3 hs (by omega)
   have q:=r0 s hs
   simp only [Nat.add_zero,Int.ofNat_zero,Int.add_zero,Int.natCast_zero,Int.natCast_one] at a0 a1 a2 a3
   repeat' split
   all_goals omega
  have d: ∀t:Nat,t<4->(if m.getD (4*c+t) 0/4=x then (1:Int) else 0)=(if m.getD (4*c+t) 0=4*x+(0:Nat) then 1 else 0)+(if m.getD (4*c+t) 0=4*x+(1:Nat) then 1 else 0)+(if m.getD (4*c+t) 0=4*x+(2:Nat) then 1 else 0)+(if m.getD (4*c+t) 0=4*x+(3:Nat) then 1 else 0):=fun t ht=>by
   have q:=r1 t ht
   repeat' split
   all_goals omega
  have b0:=b 0 (by omega)
  have b1:=b 1 (by omega)
  have b2:=b 2 (by omega)
  have b3:=b 3 (by omega)
  have d0:=d 0 (by omega)
  have d1:=d 1 (by omega)
  have d2:=d 2 (by omega)
  have d3:=d 3 (by omega)
  rw [Nat.add_zero] at b0 d0
  rw [b0,b1,b2,b3,d0,d1,d2,d3]
  omega
theorem y2j {m:List Int} {n:Nat} (hp:yba m n) (hi: ∀x:Nat,x<4*n->m.getD (m.getD x 0).toNat 0=x) {c:Nat} (hc:c<n) {l:List Int} (hl:PrmL n l) (hcl:(c:Int)∉l):rfC m (l++[(c:Int)]) (l++[(c:Int)])=rfC m l l+ctS m l c 4:=by
 have h:=yvt hp hi hc l hl
 have q:=yr1 (m:=m) hcl c
 rw [yr2,ype hcl,Int.toNat_natCast,h]
 have key: ∀y:Int,(if y/4=(c:Int) then (0:Int) else if y/4∈l then-1 else 1)=1-(if y/4=(c:Int) then 1 else 0)-2*indL l y:=fun y=>by
  unfold indL
  by_cases e:y/4=(c:Int)
  ·rw [if_pos e,if_pos e,if_neg (by rw [e];exact hcl)];rfl
  ·rw [if_neg e,if_neg e];split<;>rfl
 have ee:(eN m l c 4:Int)=indL l (m.getD (4*c) 0)+indL l (m.getD (4*c+1) 0)+indL l (m.getD (4*c+2) 0)+indL l (m.getD (4*c+3) 0):=by
  have kc: ∀p:Prop,[Decidable p]->(((if p then 1 else 0:Nat):Nat):Int)=if p then 1 else 0:=fun p _=>by split<;>rfl
  simp only [eN,indL,Int.natCast_add,kc,Nat.add_zero]
  simp
 simp only [ctS,key]
 have t0:(4*(c:Int)+(0:Nat)).toNat=4*c:=by omega
 have t1:(4*(c:Int)+(1:Nat)).toNat=4*c+1:=by omega
 have t2:(4*(c:Int)+(2:Nat)).toNat=4*c+2:=by omega
 have t3:(4*(c:Int)+(3:Nat)).toNat=4*c+3:=by omega
 simp only [t0,t1,t2,t3]
 omega
theorem ypf {n:Nat} {o:List Int} (h:PrmL n o) (k:Nat):PrmL n (o.take k):=⟨h.nd.sublist (List.take_sublist k o),fun x hx=>h.rg x (List.mem_of_mem_take hx)⟩
theorem ydx {o:List Int} {k:Nat} (h:k<o.length):o.take (k+1)=o.take k++[o.getD k 0]:=by
 rw [List.take_add_one,List.getD_eq_getElem?_getD,List.getElem?_eq_getElem h];rfl
theorem y0c {m:List Int} {n:Nat} (hp:yba m n) (hi: ∀x:Nat,x<4*n->m.getD (m.getD x 0).toNat 0=x) {o:List Int} (h:PrmL n o): ∀k,k<=o.length->ctN m o k=rfC m (o.take k) (o.take k)
 |0,_=>by simp [ctN,rfC]
 |k+1,hk=>by
  have ih:=y0c hp hi h k (by omega)
  have hm:o.getD k 0∈o:=by
   rw [List.getD_eq_getElem?_getD,List.getElem?_eq_getElem (show k<o.length by omega)]
   exact List.getElem_mem _
  have hr:=h.rg _ hm
  have hnd:=(ypf h (k+1)).nd
  rw [ydx (show k<o.length by omega),List.nodup_append] at hnd
  have hne:o.getD k 0∉o.take k:=fun g=>hnd.2.2 _ g _ (List.mem_cons_self ..) rfl
  have e:((o.getD k 0).toNat:Int)=o.getD k 0:=by omega
  have:=y2j hp hi (c:=(o.getD k 0).toNat) (by omega) (ypf h k) (by rw [e];exact hne)
  rw [e] at this
  rw [ydx (show k<o.length by omega),this,←ih]
  rfl
end Go.Proofs.YtmdjdekgakidhaaDoor
