/- Plain: the greedy order of the crossings; the width of an order. -/
import Derived.Test.YtphjphpmfflfpaaGreatDoorPl
namespace Go.Proofs.YtphjphpmfflfpaaGreatDoor
set_option linter.unusedVariables false
set_option linter.unusedSimpArgs false
def eN (m:List Int) (out:List Int) (c:Nat):Nat->Nat
 |0=>0
 |s+1=>eN m out c s+if m.getD (4*c+s) 0/4∈out then 1 else 0
theorem QB (m out:List Int) (c:Nat): ∀s,eN m out c s<=s
 |0=>Nat.le_refl _
 |s+1=>by have:=QB m out c s;simp only [eN];split<;>omega
def fj (m out:List Int):Nat->Int
 |0=> -1
 |c+1=>if (c:Int)∈out then fj m out c else if fj m out c<0\/eN m out (fj m out c).toNat 4<eN m out c 4 then (c:Int) else fj m out c
def iJ (m:List Int) (n:Nat):Nat->List Int
 |0=>[]
 |k+1=>iJ m n k++[fj m (iJ m n k) n]
theorem Ek (m:List Int) (n:Nat): ∀k,(iJ m n k).length=k
 |0=>rfl
 |k+1=>by simp [iJ,Ek m n k]
theorem GI (m out:List Int): ∀c,-1<=fj m out c/\fj m out c<c
 |0=>by simp [fj]
 |c+1=>by
  have:=GI m out c
  simp only [fj]
  split
  ·omega
  ·split<;>omega
theorem MN (m out:List Int): ∀c,0<=fj m out c->fj m out c∉out
 |0=>by simp [fj]
 |c+1=>by
  have:=MN m out c
  simp only [fj]
  split
  ·exact this
  ·split
   ·rename_i h _;exact fun _=>h
   ·exact this
theorem ML (m out:List Int): ∀c,fj m out c<0-> ∀x:Nat,x<c->(x:Int)∈out
 |0,_,x,hx=>by omega
 |c+1,h,x,hx=>by
  simp only [fj] at h
  split at h
  ·rename_i hc
   by_cases e:x=c
   ·rw [e];exact hc
   ·exact ML m out c h x (by omega)
  ·split at h
   ·omega
   ·rename_i h2;exact absurd (.inl h) h2
structure iE (n:Nat) (o:List Int):Prop where
 nd:o.Nodup
 rg: ∀x∈o,0<=x/\x<n
theorem MK {l k:List Int} (hl:l.Nodup) (h: ∀x∈l,x∈k):l.length<=k.length:=by
 induction l generalizing k with
 |nil=>exact Nat.zero_le _
 |cons x l ih=>
  have hx:=h x (List.mem_cons_self ..);have hn:=List.nodup_cons.1 hl
  have:=ih (k:=k.erase x) hn.2 fun y hy=>by
   have aw:y≠x:=fun e=>hn.1 (e▸hy);exact (List.mem_erase_of_ne aw).2 (h y (List.mem_cons_of_mem _ hy))
  rw [List.length_erase_of_mem hx] at this
  have:=List.length_pos_of_mem hx
  simp only [List.length_cons];omega
theorem GH (m:List Int) (n:Nat): ∀k,k<=n->iE n (iJ m n k)
 |0,_=>⟨by simp [iJ],by simp [iJ]⟩
 |k+1,hk=>by
  have ih:=GH m n k (by omega);have h0:0<=fj m (iJ m n k) n:=by
   rcases Int.lt_or_le (fj m (iJ m n k) n) 0 with h|h
   ·exfalso;have h1:=ML m (iJ m n k) n h;have h2:=MK (l:=(List.range n).map (Nat.cast:Nat->Int)) (k:=iJ m n k) (by
     rw [List.nodup_iff_pairwise_ne,List.pairwise_map];exact (List.nodup_iff_pairwise_ne.1 List.nodup_range).imp fun h e=>h (by omega)) (fun x hx=>by
     obtain ⟨y,hy,rfl⟩:=List.mem_map.1 hx;exact h1 y (List.mem_range.1 hy))
    rw [Ek] at h2;simp at h2;omega
   ·exact h
  have h1:=GI m (iJ m n k) n;have h2:=MN m (iJ m n k) n h0;simp only [iJ];refine ⟨?_,fun x hx=>?_⟩
  ·rw [List.nodup_append];refine ⟨ih.nd,by simp,fun x hx y hy e=>?_⟩;simp only [List.mem_cons,List.not_mem_nil,or_false] at hy;exact h2 (hy▸e▸hx)
  ·rcases List.mem_append.1 hx with h|h
   ·exact ih.rg x h
   ·simp only [List.mem_cons,List.not_mem_nil,or_false] at h;subst h;exact ⟨h0,h1.2⟩
def po (m:List Int) (l:List Int) (c:Int):Nat->Int
 |0=>0
 |s+1=>po m l c s+if m.getD (4*c+s).toNat 0/4=c then 0 else if m.getD (4*c+s).toNat 0/4∈l then-1 else 1
def mC (m o:List Int):Nat->Int
 |0=>0
 |k+1=>mC m o k+po m (o.take k) (o.getD k 0) 4
def q9 (m o:List Int):Nat->Int
 |0=>0
 |k+1=>max (q9 m o k) (mC m o (k+1))
theorem Ej (m l:List Int) (c:Int): ∀s:Nat,-(s:Int)<=po m l c s/\po m l c s<=s
 |0=>by simp [po]
 |s+1=>by
  have:=Ej m l c s
  simp only [po]
  split
  ·omega
  ·split<;>omega
theorem GG (m o:List Int): ∀k:Nat,-(4*(k:Int))<=mC m o k/\mC m o k<=4*k
 |0=>by simp [mC]
 |k+1=>by
  have h1:=GG m o k;have h2:=Ej m (o.take k) (o.getD k 0) 4;simp only [mC];omega
def rfC (m l:List Int):List Int->Int
 |[]=>0
 |c::r=>rfC m l r+(4-(eN m l c.toNat 4:Int))
def pL (m:List Int) (c:Int):List Int->Int
 |[]=>0
 |x::r=>pL m c r+(if m.getD (4*x.toNat) 0/4=c then 1 else 0)+(if m.getD (4*x.toNat+1) 0/4=c then 1 else 0)+(if m.getD (4*x.toNat+2) 0/4=c then 1 else 0)+(if m.getD (4*x.toNat+3) 0/4=c then 1 else 0)
theorem MJ {m l:List Int} {c:Int} (hc:c∉l) (x:Nat):(eN m (l++[c]) x 4:Int)=eN m l x 4+(if m.getD (4*x) 0/4=c then 1 else 0)+(if m.getD (4*x+1) 0/4=c then 1 else 0)+(if m.getD (4*x+2) 0/4=c then 1 else 0)+(if m.getD (4*x+3) 0/4=c then 1 else 0):=by
 have key: ∀y:Int,(if y∈l++[c] then 1 else 0:Nat)=(if y∈l then 1 else 0:Nat)+if y=c then 1 else 0:=fun y=>by
  by_cases h:y=c
  ·subst h;simp [hc]
  ·simp [h]
 simp only [eN,key,Nat.add_zero];have kc: ∀p:Prop,[Decidable p]->(((if p then 1 else 0:Nat):Nat):Int)=if p then 1 else 0:=fun p _=>by split<;>rfl
 simp only [Int.natCast_add,kc];omega
theorem NX {m l:List Int} {c:Int} (hc:c∉l): ∀r:List Int,rfC m (l++[c]) r=rfC m l r-pL m c r
 |[]=>rfl
 |x::r=>by
  simp only [rfC,pL,NX hc r,MJ hc];omega
theorem MI (m l:List Int) (c:Int): ∀r:List Int,rfC m l (r++[c])=rfC m l r+(4-(eN m l c.toNat 4:Int))
 |[]=>by simp [rfC]
 |x::r=>by rw [List.cons_append];simp only [rfC,MI m l c r];omega
def fQ (l:List Int) (h:Int):Int:=if h/4∈l then 1 else 0
theorem QK {m:List Int} {n:Nat} (hp:iP m n) (hi: ∀x:Nat,x<4*n->m.getD (m.getD x 0).toNat 0=x) {c:Nat} (hc:c<n): ∀l:List Int,iE n l->pL m c l=fQ l (m.getD (4*c) 0)+fQ l (m.getD (4*c+1) 0)+fQ l (m.getD (4*c+2) 0)+fQ l (m.getD (4*c+3) 0)
 |[],_=>by simp [pL,fQ]
 |x::r,h=>by
  have hn:=List.nodup_cons.1 h.nd;have ih:=QK hp hi hc r ⟨hn.2,fun y hy=>h.rg y (List.mem_cons_of_mem _ hy)⟩;have hx:=h.rg x (List.mem_cons_self ..);have key: ∀y:Int,fQ (x::r) y=fQ r y+if y/4=x then 1 else 0:=fun y=>by
   unfold fQ;by_cases e:y/4=x
   ·rw [if_pos (by rw [e];exact List.mem_cons_self ..),if_neg (by rw [e];exact hn.1),if_pos e];rfl
   ·rw [if_neg e];by_cases e2:y/4∈r
    ·rw [if_pos (List.mem_cons_of_mem _ e2),if_pos e2];rfl
    ·rw [if_neg (fun g=>by rcases List.mem_cons.1 g with g|g;exact e g;exact e2 g),if_neg e2];rfl
  simp only [pL,key,ih];have r0:=fun (s:Nat) (hs:s<4)=>hp.2 (4*x.toNat+s) (by omega);have r1:=fun (t:Nat) (ht:t<4)=>hp.2 (4*c+t) (by omega);have i0:=fun (s:Nat) (hs:s<4)=>hi (4*x.toNat+s) (by omega);have i1:=fun (t:Nat) (ht:t<4)=>hi (4*c+t) (by omega);have a: ∀s t:Nat,s<4->t<4->(m.getD (4*x.toNat+s) 0=4*(c:Int)+t↔m.getD (4*c+t) 0=4*x+s):=fun s t hs ht=>by
   constructor
   ·intro e
    have:=i0 s hs
    rw [e,show (4*(c:Int)+t).toNat=4*c+t by omega] at this;omega
   ·intro e
    have:=i1 t ht
    rw [e,show (4*x+(s:Int)).toNat=4*x.toNat+s by omega] at this;omega
  have b: ∀s:Nat,s<4->(if m.getD (4*x.toNat+s) 0/4=(c:Int) then (1:Int) else 0)=(if m.getD (4*c) 0=4*x+s then 1 else 0)+(if m.getD (4*c+1) 0=4*x+s then 1 else 0)+(if m.getD (4*c+2) 0=4*x+s then 1 else 0)+(if m.getD (4*c+3) 0=4*x+s then 1 else 0):=fun s hs=>by
   have a0:=a s 0 hs (by omega);have a1:=a s 1 hs (by omega);have a2:=a s 2 hs (by omega);have a3:=a s 3 hs (by omega);have q:=r0 s hs;simp only [Nat.add_zero,Int.ofNat_zero,Int.add_zero,Int.natCast_zero,Int.natCast_one] at a0 a1 a2 a3
   repeat' split
   all_goals omega
  have d: ∀t:Nat,t<4->(if m.getD (4*c+t) 0/4=x then (1:Int) else 0)=(if m.getD (4*c+t) 0=4*x+(0:Nat) then 1 else 0)+(if m.getD (4*c+t) 0=4*x+(1:Nat) then 1 else 0)+(if m.getD (4*c+t) 0=4*x+(2:Nat) then 1 else 0)+(if m.getD (4*c+t) 0=4*x+(3:Nat) then 1 else 0):=fun t ht=>by
   have q:=r1 t ht
   repeat' split
   all_goals omega
  have b0:=b 0 (by omega);have b1:=b 1 (by omega);have b2:=b 2 (by omega);have b3:=b 3 (by omega);have d0:=d 0 (by omega);have d1:=d 1 (by omega);have d2:=d 2 (by omega);have d3:=d 3 (by omega);rw [Nat.add_zero] at b0 d0;rw [b0,b1,b2,b3,d0,d1,d2,d3];omega
theorem UP {m:List Int} {n:Nat} (hp:iP m n) (hi: ∀x:Nat,x<4*n->m.getD (m.getD x 0).toNat 0=x) {c:Nat} (hc:c<n) {l:List Int} (hl:iE n l) (bC:(c:Int)∉l):rfC m (l++[(c:Int)]) (l++[(c:Int)])=rfC m l l+po m l c 4:=by
 have h:=QK hp hi hc l hl;have q:=MJ (m:=m) bC c;rw [MI,NX bC,Int.toNat_natCast,h];have key: ∀y:Int,(if y/4=(c:Int) then (0:Int) else if y/4∈l then-1 else 1)=1-(if y/4=(c:Int) then 1 else 0)-2*fQ l y:=fun y=>by
  unfold fQ;by_cases e:y/4=(c:Int)
  ·rw [if_pos e,if_pos e,if_neg (by rw [e];exact bC)];rfl
  ·rw [if_neg e,if_neg e];split<;>rfl
 have ee:(eN m l c 4:Int)=fQ l (m.getD (4*c) 0)+fQ l (m.getD (4*c+1) 0)+fQ l (m.getD (4*c+2) 0)+fQ l (m.getD (4*c+3) 0):=by
  have kc: ∀p:Prop,[Decidable p]->(((if p then 1 else 0:Nat):Nat):Int)=if p then 1 else 0:=fun p _=>by split<;>rfl
  simp only [eN,fQ,Int.natCast_add,kc,Nat.add_zero];simp
 simp only [po,key];have t0:(4*(c:Int)+(0:Nat)).toNat=4*c:=by omega
 have t1:(4*(c:Int)+(1:Nat)).toNat=4*c+1:=by omega
 have t2:(4*(c:Int)+(2:Nat)).toNat=4*c+2:=by omega
 have t3:(4*(c:Int)+(3:Nat)).toNat=4*c+3:=by omega
 simp only [t0,t1,t2,t3];omega
theorem Hl {n:Nat} {o:List Int} (h:iE n o) (k:Nat):iE n (o.take k):=⟨h.nd.sublist (List.take_sublist k o),fun x hx=>h.rg x (List.mem_of_mem_take hx)⟩
theorem yN {o:List Int} {k:Nat} (h:k<o.length):o.take (k+1)=o.take k++[o.getD k 0]:=by
 rw [List.take_add_one,List.getD_eq_getElem?_getD,List.getElem?_eq_getElem h];rfl
theorem QA {m:List Int} {n:Nat} (hp:iP m n) (hi: ∀x:Nat,x<4*n->m.getD (m.getD x 0).toNat 0=x) {o:List Int} (h:iE n o): ∀k,k<=o.length->mC m o k=rfC m (o.take k) (o.take k)
 |0,_=>by simp [mC,rfC]
 |k+1,hk=>by
  have ih:=QA hp hi h k (by omega);have hm:o.getD k 0∈o:=by
   rw [List.getD_eq_getElem?_getD,List.getElem?_eq_getElem (show k<o.length by omega)];exact List.getElem_mem _
  have hr:=h.rg _ hm;have hnd:=(Hl h (k+1)).nd;rw [yN (show k<o.length by omega),List.nodup_append] at hnd;have aw:o.getD k 0∉o.take k:=fun g=>hnd.2.2 _ g _ (List.mem_cons_self ..) rfl;have e:((o.getD k 0).toNat:Int)=o.getD k 0:=by omega
  have:=UP hp hi (c:=(o.getD k 0).toNat) (by omega) (Hl h k) (by rw [e];exact aw)
  rw [e] at this;rw [yN (show k<o.length by omega),this,←ih];rfl
end Go.Proofs.YtphjphpmfflfpaaGreatDoor
