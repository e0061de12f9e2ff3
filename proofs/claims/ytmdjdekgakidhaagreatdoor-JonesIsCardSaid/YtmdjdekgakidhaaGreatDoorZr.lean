/- Layer 17: sweep is the sum over all states, at most 14 crossings. -/
import Derived.Test.YtmdjdekgakidhaaGreatDoorZq
import Derived.Test.YtmdjdekgakidhaaGreatDoorPl
import Derived.Test.YtmdjdekgakidhaaGreatDoorZh
import Derived.Test.YtmdjdekgakidhaaGreatDoorZg
import Derived.Test.YtmdjdekgakidhaaGreatDoorZa
namespace Go.Proofs.YtmdjdekgakidhaaGreatDoor
open Go Go.RowKit
set_option maxRecDepth 100000
set_option maxHeartbeats 8000000
set_option linter.unusedVariables false
set_option linter.unusedSimpArgs false
theorem Jc {m:List Int} {n:Nat} {o:List Nat} {sd:List PE} (h:lA m n o n sd) (he:dF m o n=[]) (ho:o.drop n=[]): ∃g:PE,sd=[g]/\g.key=pS []/\(∀e,gY g.lo g.cs e=cu m n 0 1 e):=by
 have hk: ∀g∈sd,g.key=pS []:=fun g hg=>by
  obtain ⟨h1,h2⟩:=h.ok.ok g hg;rw [he] at h2;rw [h1,List.length_eq_zero_iff.1 h2.len]
 match sd,h,hk with
 |[],h,_=>have:=h.pos;simp at this
 |[g],h,hk=>
  refine ⟨g,rfl,hk g (zzD ..),fun e=>?_⟩
  have:=h.va e
  rw [ho] at this;simpa [sumG,oq,finR] using this
 |g::g'::r,h,hk=>
  have h1:=h.ok.nd;unfold jX at h1;simp only [List.map_cons,List.nodup_cons,List.mem_cons,not_or] at h1;exact absurd ((hk g (zzD ..)).trans (hk g' (zzE _ (zzD ..))).symm) h1.1.1
theorem Jb {m:List Int} {n:Nat} (hp:bD m n) (hn:n<=100) {e:Int} (he:cu m n 0 1 e≠0): -1000<=e/\e<=1000:=by
 have h1:=Aj hp he;have h2:=sL hp (fun _=>true);have h3:=sL hp (fun _=>false);omega
theorem AO {m:List Int} {n:Nat} (hp:bD m n) {o:List Nat} (hn:o.Nodup) (hl:o.length=n) (hr: ∀c∈o,c<n) (pz:n<=14) (iK:0<n):TU m n o (fun k sd=>k<=n/\lA m n o k sd) (fun k sd sn G=>jK m n o k sd sn G):=by
 have h42:2^(3*n)<=2^42:=Nat.pow_le_pow_right (by omega) (by omega)
 refine ⟨⟨by omega,lA.init hp hn hl hr iK⟩,fun {k sd} hk hS=>⟨hS.2.ok,?_,hS.2.pos,fun s8 g hg b=>?_,fun g hg=>?_⟩,fun {k sd} _=>jK.init m n o k sd,fun {k sd sn G} hk hS hM=>⟨hM.nd,hM.rg,hM.ok,hM.len,fun x hx=>?_⟩,fun {k sd sn G i g} hk hS hM hi sZ=>hM.step hp hn hl hr pz hk hS.2 hi sZ,fun {k sd sn G} hk hS hM ha=>⟨hk,hM.all hS.2 ha⟩,fun k hk=>?_⟩
 ·have h1:=hS.2.len;have h2:2^k<=2^14:=Nat.pow_le_pow_right (by omega) (by omega);omega
 ·have h1:=GY (F:=jN m (o.drop k) (dF m o k)) hg;have h2:=hS.2.nu;rw [vm (show k<o.length by omega)] at h1 h2
  have:=Bb (Nat.le_trans h1 h2) b
  omega
 ·have:=QX hS.2.nu hg;omega
 ·have:=hM.mx hS.2 hx;omega
 ·have:=(u5 hp hn hl hr k hk).2;omega
theorem Vh (s m:List Int) (L:Int) (hp:bD m s.length) {o:List Nat} (hn:o.Nodup) (hl:o.length=s.length) (hr: ∀c∈o,c<s.length) (pz:s.length<=14) (iK:0<s.length):
  Fn Tryz.prog 73 [dgA s m L,roI (o.map (Nat.cast:Nat->Int))] (.tup [plA false (bS (cu m s.length 0 1)), .bool true]):=by
 refine WT s m L hp hn hl hr (by omega) iK (AO hp hn hl hr pz iK) fun g hS=>?_;obtain ⟨s1,s2⟩:=u5 hp hn hl hr s.length (by omega);have qv:o.drop s.length=[]:=List.drop_eq_nil_of_le (by omega);have qz:dF m o s.length=[]:=Aa hp s1.he fun c hc=>by
  rcases s1.al c hc with g|g
  ·exact g
  ·rw [qv] at g;simp at g
 obtain ⟨g',hg,_,YQ⟩:=Jc hS.2 qz qv;obtain rfl:g=g':=by simpa using hg
 exact aV.eq ⟨DR _ _,fun e=>by rw [Jd,YQ]⟩ fun e he=>Jb hp (by omega) he
end Go.Proofs.YtmdjdekgakidhaaGreatDoor
namespace Go.Proofs.YtmdjdekgakidhaaGreatDoor
set_option linter.unusedVariables false
set_option linter.unusedSimpArgs false
def eN (m:List Int) (out:List Int) (c:Nat):Nat->Nat
 |0=>0
 |s+1=>eN m out c s+if m.getD (4*c+s) 0/4∈out then 1 else 0
theorem QW (m out:List Int) (c:Nat): ∀s,eN m out c s<=s
 |0=>zzA _
 |s+1=>by have:=QW m out c s;simp only [eN];split<;>omega
def fm (m out:List Int):Nat->Int
 |0=> -1
 |c+1=>if (c:Int)∈out then fm m out c else if fm m out c<0\/eN m out (fm m out c).toNat 4<eN m out c 4 then (c:Int) else fm m out c
def ib (m:List Int) (n:Nat):Nat->List Int
 |0=>[]
 |k+1=>ib m n k++[fm m (ib m n k) n]
theorem zL (m:List Int) (n:Nat): ∀k,(ib m n k).length=k
 |0=>rfl
 |k+1=>by simp [ib,zL m n k]
theorem Gh (m out:List Int): ∀c,-1<=fm m out c/\fm m out c<c
 |0=>by simp [fm]
 |c+1=>by
  have:=Gh m out c
  simp only [fm]
  split
  ·omega
  ·split<;>omega
theorem M7 (m out:List Int): ∀c,0<=fm m out c->fm m out c∉out
 |0=>by simp [fm]
 |c+1=>by
  have:=M7 m out c
  simp only [fm]
  split
  ·exact this
  ·split
   ·rename_i h _;exact fun _=>h
   ·exact this
theorem M6 (m out:List Int): ∀c,fm m out c<0-> ∀x:Nat,x<c->(x:Int)∈out
 |0,_,x,hx=>by omega
 |c+1,h,x,hx=>by
  simp only [fm] at h
  split at h
  ·rename_i hc
   by_cases e:x=c
   ·rw [e];exact hc
   ·exact M6 m out c h x (by omega)
  ·split at h
   ·omega
   ·rename_i h2;exact absurd (.inl h) h2
structure iD (n:Nat) (o:List Int):Prop where
 nd:o.Nodup
 rg: ∀x∈o,0<=x/\x<n
theorem M5 {l k:List Int} (hl:l.Nodup) (h: ∀x∈l,x∈k):l.length<=k.length:=by
 induction l generalizing k with
 |nil=>exact Nat.zero_le _
 |cons x l ih=>
  have hx:=h x (zzD ..);have hn:=List.nodup_cons.1 hl
  have:=ih (k:=k.erase x) hn.2 fun y hy=>by
   have av:y≠x:=fun e=>hn.1 (e▸hy);exact (List.mem_erase_of_ne av).2 (h y (zzE _ hy))
  rw [List.length_erase_of_mem hx] at this
  have:=List.length_pos_of_mem hx
  simp only [zzG];omega
theorem Gg (m:List Int) (n:Nat): ∀k,k<=n->iD n (ib m n k)
 |0,_=>⟨by simp [ib],by simp [ib]⟩
 |k+1,hk=>by
  have ih:=Gg m n k (by omega);have h0:0<=fm m (ib m n k) n:=by
   rcases Int.lt_or_le (fm m (ib m n k) n) 0 with h|h
   ·exfalso;have h1:=M6 m (ib m n k) n h;have h2:=M5 (l:=(List.range n).map (Nat.cast:Nat->Int)) (k:=ib m n k) (by
     rw [List.nodup_iff_pairwise_ne,List.pairwise_map];exact (List.nodup_iff_pairwise_ne.1 List.nodup_range).imp fun h e=>h (by omega)) (fun x hx=>by
     obtain ⟨y,hy,rfl⟩:=List.mem_map.1 hx;exact h1 y (List.mem_range.1 hy))
    rw [zL] at h2;simp at h2;omega
   ·exact h
  have h1:=Gh m (ib m n k) n;have h2:=M7 m (ib m n k) n h0;simp only [ib];refine ⟨?_,fun x hx=>?_⟩
  ·rw [List.nodup_append];refine ⟨ih.nd,by simp,fun x hx y hy e=>?_⟩;simp only [List.mem_cons,zzH,or_false] at hy;exact h2 (hy▸e▸hx)
  ·rcases List.mem_append.1 hx with h|h
   ·exact ih.rg x h
   ·simp only [List.mem_cons,zzH,or_false] at h;subst h;exact ⟨h0,h1.2⟩
def oO (m:List Int) (l:List Int) (c:Int):Nat->Int
 |0=>0
 |s+1=>oO m l c s+if m.getD (4*c+s).toNat 0/4=c then 0 else if m.getD (4*c+s).toNat 0/4∈l then-1 else 1
def l9 (m o:List Int):Nat->Int
 |0=>0
 |k+1=>l9 m o k+oO m (o.take k) (o.getD k 0) 4
def oZ (m o:List Int):Nat->Int
 |0=>0
 |k+1=>max (oZ m o k) (l9 m o (k+1))
theorem D2 (m l:List Int) (c:Int): ∀s:Nat,-(s:Int)<=oO m l c s/\oO m l c s<=s
 |0=>by simp [oO]
 |s+1=>by
  have:=D2 m l c s
  simp only [oO]
  split
  ·omega
  ·split<;>omega
theorem Gf (m o:List Int): ∀k:Nat,-(4*(k:Int))<=l9 m o k/\l9 m o k<=4*k
 |0=>by simp [l9]
 |k+1=>by
  have h1:=Gf m o k;have h2:=D2 m (o.take k) (o.getD k 0) 4;simp only [l9];omega
def rfC (m l:List Int):List Int->Int
 |[]=>0
 |c::r=>rfC m l r+(4-(eN m l c.toNat 4:Int))
def po (m:List Int) (c:Int):List Int->Int
 |[]=>0
 |x::r=>po m c r+(if m.getD (4*x.toNat) 0/4=c then 1 else 0)+(if m.getD (4*x.toNat+1) 0/4=c then 1 else 0)+(if m.getD (4*x.toNat+2) 0/4=c then 1 else 0)+(if m.getD (4*x.toNat+3) 0/4=c then 1 else 0)
theorem M4 {m l:List Int} {c:Int} (hc:c∉l) (x:Nat):(eN m (l++[c]) x 4:Int)=eN m l x 4+(if m.getD (4*x) 0/4=c then 1 else 0)+(if m.getD (4*x+1) 0/4=c then 1 else 0)+(if m.getD (4*x+2) 0/4=c then 1 else 0)+(if m.getD (4*x+3) 0/4=c then 1 else 0):=by
 have key: ∀y:Int,(if y∈l++[c] then 1 else 0:Nat)=(if y∈l then 1 else 0:Nat)+if y=c then 1 else 0:=fun y=>by
  by_cases h:y=c
  ·subst h;simp [hc]
  ·simp [h]
 simp only [eN,key,Nat.add_zero];have kc: ∀p:Prop,[Decidable p]->(((if p then 1 else 0:Nat):Nat):Int)=if p then 1 else 0:=fun p _=>by split<;>rfl
 simp only [Int.natCast_add,kc];omega
theorem Oq {m l:List Int} {c:Int} (hc:c∉l): ∀r:List Int,rfC m (l++[c]) r=rfC m l r-po m c r
 |[]=>rfl
 |x::r=>by
  simp only [rfC,po,Oq hc r,M4 hc];omega
theorem M3 (m l:List Int) (c:Int): ∀r:List Int,rfC m l (r++[c])=rfC m l r+(4-(eN m l c.toNat 4:Int))
 |[]=>by simp [rfC]
 |x::r=>by rw [List.cons_append];simp only [rfC,M3 m l c r];omega
def fV (l:List Int) (h:Int):Int:=if h/4∈l then 1 else 0
theorem RQ {m:List Int} {n:Nat} (hp:iN m n) (hi: ∀x:Nat,x<4*n->m.getD (m.getD x 0).toNat 0=x) {c:Nat} (hc:c<n): ∀l:List Int,iD n l->po m c l=fV l (m.getD (4*c) 0)+fV l (m.getD (4*c+1) 0)+fV l (m.getD (4*c+2) 0)+fV l (m.getD (4*c+3) 0)
 |[],_=>by simp [po,fV]
 |x::r,h=>by
  have hn:=List.nodup_cons.1 h.nd;have ih:=RQ hp hi hc r ⟨hn.2,fun y hy=>h.rg y (zzE _ hy)⟩;have hx:=h.rg x (zzD ..);have key: ∀y:Int,fV (x::r) y=fV r y+if y/4=x then 1 else 0:=fun y=>by
   unfold fV;by_cases e:y/4=x
   ·rw [if_pos (by rw [e];exact zzD ..),if_neg (by rw [e];exact hn.1),if_pos e];rfl
   ·rw [if_neg e];by_cases e2:y/4∈r
    ·rw [if_pos (zzE _ e2),if_pos e2];rfl
    ·rw [if_neg (fun g=>by rcases List.mem_cons.1 g with g|g;exact e g;exact e2 g),if_neg e2];rfl
  simp only [po,key,ih];have r0:=fun (s:Nat) (hs:s<4)=>hp.2 (4*x.toNat+s) (by omega);have r1:=fun (t:Nat) (ht:t<4)=>hp.2 (4*c+t) (by omega);have i0:=fun (s:Nat) (hs:s<4)=>hi (4*x.toNat+s) (by omega);have i1:=fun (t:Nat) (ht:t<4)=>hi (4*c+t) (by omega);have a: ∀s t:Nat,s<4->t<4->(m.getD (4*x.toNat+s) 0=4*(c:Int)+t↔m.getD (4*c+t) 0=4*x+s):=fun s t hs ht=>by
   constructor
   ·intro e
    have:=i0 s hs
    rw [e,show (4*(c:Int)+t).toNat=4*c+t by omega] at this;omega
   ·intro e
    have:=i1 t ht
    rw [e,show (4*x+(s:Int)).toNat=4*x.toNat+s by omega] at this;omega
  have b: ∀s:Nat,s<4->(if m.getD (4*x.toNat+s) 0/4=(c:Int) then (1:Int) else 0)=(if m.getD (4*c) 0=4*x+s then 1 else 0)+(if m.getD (4*c+1) 0=4*x+s then 1 else 0)+(if m.getD (4*c+2) 0=4*x+s then 1 else 0)+(if m.getD (4*c+3) 0=4*x+s then 1 else 0):=fun s hs=>by
   have a0:=a s 0 hs (by omega);have a1:=a s 1 hs (by omega);have a2:=a s 2 hs (by omega);have a3:=a s 3 hs (by omega);have q:=r0 s hs;simp only [Nat.add_zero,Int.ofNat_zero,Int.add_zero,Int.natCast_zero,Int.natCast_one] at a0 a1 a2 a3
   repeat' split
   all_goals omega
  have d: ∀t:Nat,t<4->(if m.getD (4*c+t) 0/4=x then (1:Int) else 0)=(if m.getD (4*c+t) 0=4*x+(0:Nat) then 1 else 0)+(if m.getD (4*c+t) 0=4*x+(1:Nat) then 1 else 0)+(if m.getD (4*c+t) 0=4*x+(2:Nat) then 1 else 0)+(if m.getD (4*c+t) 0=4*x+(3:Nat) then 1 else 0):=fun t ht=>by
   have q:=r1 t ht
   repeat' split
   all_goals omega
  have b0:=b 0 (by omega);have b1:=b 1 (by omega);have b2:=b 2 (by omega);have b3:=b 3 (by omega);have d0:=d 0 (by omega);have d1:=d 1 (by omega);have d2:=d 2 (by omega);have d3:=d 3 (by omega);rw [Nat.add_zero] at b0 d0;rw [b0,b1,b2,b3,d0,d1,d2,d3];omega
theorem JA {m:List Int} {n:Nat} (hp:iN m n) (hi: ∀x:Nat,x<4*n->m.getD (m.getD x 0).toNat 0=x) {c:Nat} (hc:c<n) {l:List Int} (hl:iD n l) (b5:(c:Int)∉l):rfC m (l++[(c:Int)]) (l++[(c:Int)])=rfC m l l+oO m l c 4:=by
 have h:=RQ hp hi hc l hl;have q:=M4 (m:=m) b5 c;rw [M3,Oq b5,zzC,h];have key: ∀y:Int,(if y/4=(c:Int) then (0:Int) else if y/4∈l then-1 else 1)=1-(if y/4=(c:Int) then 1 else 0)-2*fV l y:=fun y=>by
  unfold fV;by_cases e:y/4=(c:Int)
  ·rw [if_pos e,if_pos e,if_neg (by rw [e];exact b5)];rfl
  ·rw [if_neg e,if_neg e];split<;>rfl
 have ee:(eN m l c 4:Int)=fV l (m.getD (4*c) 0)+fV l (m.getD (4*c+1) 0)+fV l (m.getD (4*c+2) 0)+fV l (m.getD (4*c+3) 0):=by
  have kc: ∀p:Prop,[Decidable p]->(((if p then 1 else 0:Nat):Nat):Int)=if p then 1 else 0:=fun p _=>by split<;>rfl
  simp only [eN,fV,Int.natCast_add,kc,Nat.add_zero];simp
 simp only [oO,key];have t0:(4*(c:Int)+(0:Nat)).toNat=4*c:=by omega
 have t1:(4*(c:Int)+(1:Nat)).toNat=4*c+1:=by omega
 have t2:(4*(c:Int)+(2:Nat)).toNat=4*c+2:=by omega
 have t3:(4*(c:Int)+(3:Nat)).toNat=4*c+3:=by omega
 simp only [t0,t1,t2,t3];omega
theorem Hw {n:Nat} {o:List Int} (h:iD n o) (k:Nat):iD n (o.take k):=⟨h.nd.sublist (List.take_sublist k o),fun x hx=>h.rg x (List.mem_of_mem_take hx)⟩
theorem yG {o:List Int} {k:Nat} (h:k<o.length):o.take (k+1)=o.take k++[o.getD k 0]:=by
 rw [List.take_add_one,zzB,zzI h];rfl
theorem QV {m:List Int} {n:Nat} (hp:iN m n) (hi: ∀x:Nat,x<4*n->m.getD (m.getD x 0).toNat 0=x) {o:List Int} (h:iD n o): ∀k,k<=o.length->l9 m o k=rfC m (o.take k) (o.take k)
 |0,_=>by simp [l9,rfC]
 |k+1,hk=>by
  have ih:=QV hp hi h k (by omega);have hm:o.getD k 0∈o:=by
   rw [zzB,zzI (show k<o.length by omega)];exact List.getElem_mem _
  have hr:=h.rg _ hm;have hnd:=(Hw h (k+1)).nd;rw [yG (show k<o.length by omega),List.nodup_append] at hnd;have av:o.getD k 0∉o.take k:=fun g=>hnd.2.2 _ g _ (zzD ..) rfl;have e:((o.getD k 0).toNat:Int)=o.getD k 0:=by omega
  have:=JA hp hi (c:=(o.getD k 0).toNat) (by omega) (Hw h k) (by rw [e];exact av)
  rw [e] at this;rw [yG (show k<o.length by omega),this,←ih];rfl
open Go Go.RowKit
set_option maxRecDepth 100000
set_option maxHeartbeats 8000000
def vZ (o:List Int) (n k:Nat):Bool:=decide (0<=o.getD k 0)&&decide (o.getD k 0<n)&& !((o.take k).contains (o.getD k 0))
def gdN (o:List Int) (n:Nat):Nat->Bool
 |0=>true
 |k+1=>gdN o n k&&vZ o n k
def nk (o:List Int) (n:Nat):Bool:=(o.length==n)&&gdN o n o.length
def my (n:Nat) (l:List Int):List Bool:=(List.range n).map fun (c:Nat)=>l.contains (c:Int)
theorem D1 (n:Nat) (l:List Int):(my n l).length=n:=by simp [my]
theorem FK (n:Nat):my n []=List.replicate n false:=by
 apply List.ext_getElem?;intro i;by_cases h:i<n<;>simp [my,h]
theorem DI (n:Nat) (l:List Int) {x:Int} (h0:0<=x) (h1:x<n):(my n l).getD x.toNat false=l.contains x:=by
 have:x.toNat<n:=by omega
 simp only [my,zzB,List.getElem?_map,List.getElem?_range this,Option.map_some,Option.getD_some];rw [show ((x.toNat:Nat):Int)=x by omega]
theorem Ge (n:Nat) (l:List Int) {x:Int} (h0:0<=x) (h1:x<n):(my n l).set x.toNat true=my n (l++[x]):=by
 apply List.ext_getElem?;intro i;rw [List.getElem?_set,D1];by_cases e:x.toNat=i
 ·subst e;rw [if_pos rfl,if_pos (by omega)];simp only [my,List.getElem?_map,List.getElem?_range (show x.toNat<n by omega),Option.map_some];rw [show ((x.toNat:Nat):Int)=x by omega];simp
 ·rw [if_neg e];by_cases hi:i<n
  ·simp only [my,List.getElem?_map,List.getElem?_range hi,Option.map_some];congr 1
   have:(i:Int)≠x:=fun g=>e (by omega)
   simp [List.contains_eq_any_beq,this]
  ·simp [my,hi]
theorem Un (o:List Int) (n:Nat) (ho:o.length<=100000) (hn:n<=100000):Fn Tryz.prog 72 [roI o,I n] (.bool (nk o n)):=by
 by_cases rv:o.length=n
 ·have b0:((o.length:Int)!=(n:Int))=false:=by simp [rv]
  have Lr:nk o n=gdN o n n:=by unfold nk;rw [rv];simp
  rw [Lr];refine Fn.ai [.tmp 4] Tryz.func72 rfl rfl (by decide) (by simp [Tryz.ntmps72]) ?_;rw [Tryz.ntmps72]
  repeat' (first|omega|(try apply ag);simp only [go_sem,sevalprocAttr,b0,rv,zzC]|apply ae<;>(intro h_;(try simp only [h_]);revert h_)|apply And.intro|with_reducible intro h_|trivial|simp only [go_sem,ah];omega)
  refine aR.intro (fun n' fr H=> ∃k:Nat,k<=n/\gdN o n k=true/\n'=n-k/\fr=[(16,I k),(15,I n),(14,roI o),(5, .sl 1 0 0 n),(0,roI o),(1,I n)]/\H=[(0, .cells 4 (.bools (my n (o.take k))))]) ?_ ?_
  ·refine ⟨_,_,_,?_,0,by omega,rfl,rfl,rfl,rfl⟩;refine Wk.sub ?_ ?_<;>(simp only [go_sem,sevalprocAttr,rv,FK,List.take_zero])
  rintro n' fr H ⟨k,hk,w9,rfl,rfl,rfl⟩;have dL:=D1 n (o.take k);by_cases s8:k<n
  ·have bk:decide ((k:Int)<n)=true:=by simp;omega
   by_cases h1:0<=o.getD k 0/\o.getD k 0<n
   ·have b1:decide (o.getD k 0<0)=false:=by rw [decide_eq_false_iff_not];omega
    have b2:decide ((n:Int)<=o.getD k 0)=false:=by rw [decide_eq_false_iff_not];omega
    have hg:=DI n (o.take k) h1.1 h1.2;have aY:=Ge n (o.take k) h1.1 h1.2;rw [←yG (show k<o.length by omega)] at aY;cases hc:(o.take k).contains (o.getD k 0) with
    |true=>
     rw [hc] at hg;have hf:gdN o n n=false:=by
      have key: ∀d,gdN o n (k+1+d)=false:=fun d=>by
       induction d with
       |zero=>simp only [gdN,vZ,hc,Bool.not_true,Bool.and_false,Nat.add_zero]
       |succ d ih=>rw [←Nat.add_assoc];simp only [gdN,ih,Bool.false_and]
      have:=key (n-k-1)
      rwa [show k+1+(n-k-1)=n by omega] at this
     rw [hf]
     repeat' (first|omega|(try apply ag);simp only [go_sem,sevalprocAttr,bk,b1,b2,hg,dL,rv]|apply ae<;>(intro h_;(try simp only [h_]);revert h_)|apply And.intro|with_reducible intro h_|trivial|simp only [go_sem,ah];omega)
     all_goals exact az.refl _
    |false=>
     rw [hc] at hg;have mZ:gdN o n (k+1)=true:=by simp only [gdN,vZ,w9,hc];rw [decide_eq_true h1.1,decide_eq_true h1.2];rfl
     repeat' (first|omega|(try apply ag);simp only [go_sem,sevalprocAttr,bk,b1,b2,hg,dL,rv,aY]|apply ae<;>(intro h_;(try simp only [h_]);revert h_)|apply And.intro|with_reducible intro h_|trivial|simp only [go_sem,ah];omega)
     refine ⟨_,_,_,?_,?_,k+1,by omega,mZ,rfl,rfl,rfl⟩
     ·omega
     ·refine Wk.sub ?_ ?_<;>(simp only [go_sem,sevalprocAttr,rv,aY])
   ·have hf:gdN o n n=false:=by
     have Cb:vZ o n k=false:=by
      unfold vZ;by_cases h2:0<=o.getD k 0
      ·rw [show decide (o.getD k 0<n)=false by rw [decide_eq_false_iff_not];exact fun h=>h1 ⟨h2,h⟩];simp
      ·rw [show decide (0<=o.getD k 0)=false by rw [decide_eq_false_iff_not];exact h2];simp
     have key: ∀d,gdN o n (k+1+d)=false:=fun d=>by
      induction d with
      |zero=>simp only [gdN,Cb,Bool.and_false,Nat.add_zero]
      |succ d ih=>rw [←Nat.add_assoc];simp only [gdN,ih,Bool.false_and]
     have:=key (n-k-1)
     rwa [show k+1+(n-k-1)=n by omega] at this
    rw [hf];by_cases h2:o.getD k 0<0
    ·have b1:decide (o.getD k 0<0)=true:=by simpa using h2
     repeat' (first|omega|(try apply ag);simp only [go_sem,sevalprocAttr,bk,b1,dL,rv]|apply ae<;>(intro h_;(try simp only [h_]);revert h_)|apply And.intro|with_reducible intro h_|trivial|simp only [go_sem,ah];omega)
     all_goals exact az.refl _
    ·have b1:decide (o.getD k 0<0)=false:=by simpa using h2
     have b2:decide ((n:Int)<=o.getD k 0)=true:=by rw [decide_eq_true_eq];omega
     repeat' (first|omega|(try apply ag);simp only [go_sem,sevalprocAttr,bk,b1,b2,dL,rv]|apply ae<;>(intro h_;(try simp only [h_]);revert h_)|apply And.intro|with_reducible intro h_|trivial|simp only [go_sem,ah];omega)
     all_goals exact az.refl _
  ·obtain rfl:k=n:=by omega
   have bk:decide ((k:Int)<k)=false:=by simp
   rw [w9]
   repeat' (first|omega|(try apply ag);simp only [go_sem,sevalprocAttr,bk,rv]|apply ae<;>(intro h_;(try simp only [h_]);revert h_)|apply And.intro|with_reducible intro h_|trivial|simp only [go_sem,ah];omega)
   all_goals exact az.refl _
 ·have b0:((o.length:Int)!=(n:Int))=true:=by simp;omega
  have Lr:nk o n=false:=by unfold nk;rw [show (o.length==n)=false by simpa using rv];rfl
  rw [Lr];refine Fn.ai [.tmp 4] Tryz.func72 rfl rfl (by decide) (by simp [Tryz.ntmps72]) ?_;rw [Tryz.ntmps72]
  repeat' (first|omega|(try apply ag);simp only [go_sem,sevalprocAttr,b0]|apply ae<;>(intro h_;(try simp only [h_]);revert h_)|apply And.intro|with_reducible intro h_|trivial|simp only [go_sem,ah];omega)
  all_goals exact az.refl _
theorem M1 {o:List Int} {n:Nat}: ∀k,k<=o.length->gdN o n k=true->iD n (o.take k)
 |0,_,_=>⟨by simp,by simp⟩
 |k+1,hk,h=>by
  simp only [gdN,vZ,Bool.and_eq_true,decide_eq_true_eq,Bool.not_eq_true'] at h;obtain ⟨h1,⟨h2,h3⟩,h4⟩:=h;have ih:=M1 k (by omega) h1;rw [yG (by omega)];refine ⟨?_,fun x hx=>?_⟩
  ·rw [List.nodup_append];refine ⟨ih.nd,by simp,fun x hx y hy e=>?_⟩;simp only [List.mem_cons,zzH,or_false] at hy;subst hy;subst e;simp at h4;exact h4 (by simpa using hx)
  ·rcases List.mem_append.1 hx with hx|hx
   ·exact ih.rg x hx
   ·simp only [List.mem_cons,zzH,or_false] at hx;subst hx;exact ⟨h2,h3⟩
theorem Ew {o:List Int} {n:Nat} (h:nk o n=true):iD n o/\o.length=n:=by
 simp only [nk,Bool.and_eq_true,beq_iff_eq] at h
 have:=M1 o.length (zzA _) h.2
 rw [List.take_length] at this;exact ⟨this,h.1⟩
theorem MZ {o:List Int} {n:Nat} (h:iD n o): ∀k,k<=o.length->gdN o n k=true
 |0,_=>rfl
 |k+1,hk=>by
  have h1:=(Hw h (k+1)).nd;rw [yG (by omega),List.nodup_append] at h1;have hm:o.getD k 0∈o:=by
   rw [zzB,zzI (show k<o.length by omega)];exact List.getElem_mem _
  have h2:=h.rg _ hm;simp only [gdN,vZ,MZ h k (by omega),Bool.true_and,Bool.and_eq_true,decide_eq_true_eq,Bool.not_eq_true'];refine ⟨h2,?_⟩;cases hc:(o.take k).contains (o.getD k 0) with
  |false=>rfl
  |true=>
   rw [List.contains_iff_mem] at hc;exact absurd rfl (h1.2.2 _ hc _ (zzD ..))
theorem WS {o:List Int} {n:Nat} (h:iD n o) (hl:o.length=n):nk o n=true:=by
 unfold nk;rw [MZ h _ (zzA _),hl];simp
theorem AE {m:List Int} {c j:Nat} (hj:j<4):((m.drop (4*c)).take 4).getD j 0=m.getD (4*c+j) 0:=by
 simp only [zzB,List.getElem?_take,hj,if_true,List.getElem?_drop]
theorem Oo {m:List Int} {c n:Nat} (hm:m.length=4*n) (hc:c<n):((m.drop (4*c)).take 4).length=4:=by
 rw [List.length_take,List.length_drop];omega
def tK (s m:List Int) (L:Int) (o:List Int):AV:=if cX s m L=true then (if nk o s.length=true then .tup [I (oZ m o o.length),I 0] else .tup [I 0,I 2]) else .tup [I 0,I 1]
theorem On (s m:List Int) (L:Int) (o:List Int) (hs:s.length<=1000) (ho:o.length<=100000):Fn Tryz.prog 30 [dgA s m L,roI o] (tK s m L o):=by
 have hV:=vh s m L;have hP:=Un o s.length ho (by omega);unfold tK;cases hv:cX s m L with
 |false=>
  rw [hv] at hV;rw [if_neg (by simp)];refine Fn.ai [.tmp 4, .tmp 5] Tryz.func30 rfl rfl (by decide) (by simp [Tryz.ntmps30]) ?_;rw [Tryz.ntmps30]
  repeat' (first|omega|(try apply ag);simp only [go_sem,sevalprocAttr]|apply ae<;>(intro h_;(try simp only [h_]);revert h_)|apply And.intro|with_reducible intro h_|trivial|simp only [go_sem,ah];omega)
  all_goals refine ⟨au.fn rfl hV ?_⟩
  all_goals (repeat' (first|omega|(try apply ag);simp only [go_sem,sevalprocAttr]|apply ae<;>(intro h_;(try simp only [h_]);revert h_)|apply And.intro|with_reducible intro h_|trivial|simp only [go_sem,ah];omega))
  all_goals exact az.refl _
 |true=>
  rw [hv] at hV;rw [if_pos rfl];cases lX:nk o s.length with
  |false=>
   rw [lX] at hP;rw [if_neg (by simp)];refine Fn.ai [.tmp 4, .tmp 5] Tryz.func30 rfl rfl (by decide) (by simp [Tryz.ntmps30]) ?_;rw [Tryz.ntmps30]
   repeat' (first|omega|(try apply ag);simp only [go_sem,sevalprocAttr]|apply ae<;>(intro h_;(try simp only [h_]);revert h_)|apply And.intro|with_reducible intro h_|trivial|simp only [go_sem,ah];omega)
   all_goals refine ⟨au.fn rfl hV ?_⟩
   all_goals (repeat' (first|omega|(try apply ag);simp only [go_sem,sevalprocAttr]|apply ae<;>(intro h_;(try simp only [h_]);revert h_)|apply And.intro|with_reducible intro h_|trivial|simp only [go_sem,ah];omega))
   all_goals refine ⟨au.fn rfl hP ?_⟩
   all_goals (repeat' (first|omega|(try apply ag);simp only [go_sem,sevalprocAttr]|apply ae<;>(intro h_;(try simp only [h_]);revert h_)|apply And.intro|with_reducible intro h_|trivial|simp only [go_sem,ah];omega))
   all_goals exact az.refl _
  |true=>
   rw [lX] at hP;rw [if_pos rfl];obtain ⟨j7,cI⟩:=Ew lX;have hp:=(jb hv).prd;have fv:=hp.ok.1;refine Fn.ai [.tmp 4, .tmp 5] Tryz.func30 rfl rfl (by decide) (by simp [Tryz.ntmps30]) ?_;rw [Tryz.ntmps30]
   repeat' (first|omega|(try apply ag);simp only [go_sem,sevalprocAttr]|apply ae<;>(intro h_;(try simp only [h_]);revert h_)|apply And.intro|with_reducible intro h_|trivial|simp only [go_sem,ah];omega)
   all_goals refine ⟨au.fn rfl hV ?_⟩
   all_goals (repeat' (first|omega|(try apply ag);simp only [go_sem,sevalprocAttr]|apply ae<;>(intro h_;(try simp only [h_]);revert h_)|apply And.intro|with_reducible intro h_|trivial|simp only [go_sem,ah];omega))
   all_goals refine ⟨au.fn rfl hP ?_⟩
   all_goals (repeat' (first|omega|(try apply ag);simp only [go_sem,sevalprocAttr,zzC]|apply ae<;>(intro h_;(try simp only [h_]);revert h_)|apply And.intro|with_reducible intro h_|trivial|simp only [go_sem,ah];omega))
   refine aR.intro (fun n' fr H=> ∃k:Nat,k<=s.length/\n'=s.length-k/\fr=[(28,I k),(27,I s.length),(26,roI o),(8,I (oZ m o k)),(7,I (l9 m o k)),(6, .sl 1 1 0 s.length),(2, .ptr 0 0)]/\
    H=[(1, .cells 4 (.bools (my s.length (o.take k)))),(0, .cells 24 (.lst [roI s,roI m,I L]))]) ?_ ?_
   ·refine ⟨_,_,_,Wk.sub ?_ ?_,0,by omega,rfl,rfl,rfl⟩
    ·simp only [go_sem,sevalprocAttr,cI,oZ,l9]
    ·simp only [go_sem,sevalprocAttr,FK,List.take_zero]
   rintro n' fr H ⟨k,hk,rfl,rfl,rfl⟩;have dL:=D1 s.length (o.take k);have za:=Gf m o k;by_cases s8:k<s.length
   ·have bk:decide ((k:Int)<s.length)=true:=by simp;omega
    have iu:o.getD k 0∈o:=by
     rw [zzB,zzI (show k<o.length by omega)];exact List.getElem_mem _
    have hx:=j7.rg _ iu;have aY:=Ge s.length (o.take k) hx.1 hx.2;rw [←yG (show k<o.length by omega)] at aY;obtain ⟨c,hc⟩: ∃c:Nat,o.getD k 0=c:=⟨(o.getD k 0).toNat,by omega⟩;have LV:l9 m o (k+1)=l9 m o k+oO m (o.take k) c 4:=by simp only [l9,hc]
    rw [hc] at aY hx;rw [zzC] at aY;have e4:(4*(c:Int)).toNat=4*c:=by omega
    have e5:(4*(c:Int)+4).toNat=4*c+4:=by omega
    have e6:4*c+4-4*c=4:=by omega
    have yS:=Oo (c:=c) fv (by omega)
    repeat' (first|omega|(try apply ag);simp only [go_sem,sevalprocAttr,bk,hc,cI,e4,e5,e6,zzC]|apply ae<;>(intro h_;(try simp only [h_]);revert h_)|apply And.intro|with_reducible intro h_|trivial|simp only [go_sem,ah];omega)
    refine aR.intro (fun n' fr H=> ∃j:Nat,j<=4/\n'=4-j/\fr=[(41,I j),(40,I 4),(39, .ro 1 4 (.ints ((m.drop (4*c)).take 4))),(10,I c),(28,I k),(27,I s.length),(26,roI o),(8,I (oZ m o k)),(7,I (l9 m o k+oO m (o.take k) c j)),(6, .sl 1 1 0 s.length),(2, .ptr 0 0)]/\
     H=[(1, .cells 4 (.bools (my s.length (o.take k)))),(0, .cells 24 (.lst [roI s,roI m,I L]))]) ?_ ?_
    ·refine ⟨_,_,_,Wk.sub ?_ ?_,0,by omega,rfl,rfl,rfl⟩
     ·(simp only [go_sem,sevalprocAttr,cI,oO,Int.add_zero])<;>rfl
     ·simp only [go_sem,sevalprocAttr]
    rintro n' fr H ⟨j,hj,rfl,rfl,rfl⟩;have hsr:=D2 m (o.take k) c j;by_cases hj4:j<4
    ·have bj:decide ((j:Int)<4)=true:=by simp;omega
     have vC:=AE (m:=m) (c:=c) hj4;have hy:=hp.ok.2 (4*c+j) (by omega);have e7:(4*(c:Int)+(j:Int)).toNat=4*c+j:=by omega
     obtain ⟨y,Bn⟩: ∃y:Nat,m.getD (4*c+j) 0=y:=⟨(m.getD (4*c+j) 0).toNat,by omega⟩;have dZ:oO m (o.take k) c (j+1)=oO m (o.take k) c j+if (y:Int)/4=c then 0 else if (y:Int)/4∈o.take k then-1 else 1:=by simp only [oO,e7,Bn]
     have vF:(y:Int).tdiv 4=(y:Int)/4:=Int.tdiv_eq_ediv_of_nonneg (by omega);have hg:=DI s.length (o.take k) (x:=(y:Int)/4) (by omega) (by omega);have hq:((y:Int)/4).toNat=y/4:=by omega
     rw [hq] at hg;rw [Bn] at vC;by_cases h1:(y:Int)/4=c
     ·have b1:((y:Int)/4==(c:Int))=true:=by simpa using h1
      rw [if_pos h1,Int.add_zero] at dZ
      repeat' (first|omega|(try apply ag);simp only [go_sem,sevalprocAttr,bj,vC,yS,vF,b1,cI]|apply ae<;>(intro h_;(try simp only [h_]);revert h_)|apply And.intro|with_reducible intro h_|trivial|simp only [go_sem,ah];omega)
      refine ⟨_,_,_,?_,Wk.sub ?_ ?_,j+1,by omega,rfl,rfl,rfl⟩
      ·omega
      ·simp only [go_sem,sevalprocAttr,cI,dZ]
      ·simp only [go_sem,sevalprocAttr]
     ·have b1:((y:Int)/4==(c:Int))=false:=by simpa using h1
      rw [if_neg h1] at dZ;by_cases h2:(y:Int)/4∈o.take k
      ·rw [if_pos h2] at dZ;have b2:(o.take k).contains ((y:Int)/4)=true:=by simpa using h2
       rw [b2] at hg
       repeat' (first|omega|(try apply ag);simp only [go_sem,sevalprocAttr,bj,vC,yS,vF,b1,hg,dL,hq,cI]|apply ae<;>(intro h_;(try simp only [h_]);revert h_)|apply And.intro|with_reducible intro h_|trivial|simp only [go_sem,ah];omega)
       refine ⟨_,_,_,?_,Wk.sub ?_ ?_,j+1,by omega,rfl,rfl,rfl⟩
       ·omega
       ·simp only [go_sem,sevalprocAttr,cI,dZ];omega
       ·simp only [go_sem,sevalprocAttr]
      ·rw [if_neg h2] at dZ;have b2:(o.take k).contains ((y:Int)/4)=false:=by simpa using h2
       rw [b2] at hg
       repeat' (first|omega|(try apply ag);simp only [go_sem,sevalprocAttr,bj,vC,yS,vF,b1,hg,dL,hq,cI]|apply ae<;>(intro h_;(try simp only [h_]);revert h_)|apply And.intro|with_reducible intro h_|trivial|simp only [go_sem,ah];omega)
       refine ⟨_,_,_,?_,Wk.sub ?_ ?_,j+1,by omega,rfl,rfl,rfl⟩
       ·omega
       ·simp only [go_sem,sevalprocAttr,cI,dZ];omega
       ·simp only [go_sem,sevalprocAttr]
    ·obtain rfl:j=4:=by omega
     have bj:decide (((4:Nat):Int)<4)=false:=by decide
     rw [←LV];have wN:oZ m o (k+1)=max (oZ m o k) (l9 m o (k+1)):=rfl
     repeat' (first|omega|(try apply ag);simp only [go_sem,sevalprocAttr,bj,dL,aY,cI,zzC]|apply ae<;>(intro h_;(try simp only [h_]);revert h_)|apply And.intro|with_reducible intro h_|trivial|simp only [go_sem,ah];omega)
     refine ⟨_,_,_,?_,Wk.sub ?_ ?_,k+1,by omega,rfl,rfl,rfl⟩
     ·omega
     ·simp only [go_sem,sevalprocAttr,cI];rw [wN];split<;>omega
     ·simp only [go_sem,sevalprocAttr,aY]
   ·obtain rfl:k=s.length:=by omega
    have bk:decide ((s.length:Int)<s.length)=false:=by simp
    repeat' (first|omega|(try apply ag);simp only [go_sem,sevalprocAttr,bk,cI]|apply ae<;>(intro h_;(try simp only [h_]);revert h_)|apply And.intro|with_reducible intro h_|trivial|simp only [go_sem,ah];omega)
    all_goals exact az.refl _
def nV (m out:List Int) (c:Nat):Int:=if fm m out c<0 then-1 else (eN m out (fm m out c).toNat 4:Int)
theorem WR (m:List Int) (n k:Nat) (hk:k<n):0<=fm m (ib m n k) n:=by
 have:=(Gg m n (k+1) (by omega)).rg (fm m (ib m n k) n) (by simp [ib])
 exact this.1
theorem Om (s m:List Int) (L:Int) (hs:s.length<=1000):Fn Tryz.prog 28 [dgA s m L] (if cX s m L=true then roI (ib m s.length s.length) else .nils):=by
 have hV:=vh s m L;cases hv:cX s m L with
 |false=>
  rw [hv] at hV;rw [if_neg (by simp)];refine Fn.ai [.tmp 2] Tryz.func28 rfl rfl (by decide) (by simp [Tryz.ntmps28]) ?_;rw [Tryz.ntmps28]
  repeat' (first|omega|(try apply ag);simp only [go_sem,sevalprocAttr]|apply ae<;>(intro h_;(try simp only [h_]);revert h_)|apply And.intro|with_reducible intro h_|trivial|simp only [go_sem,ah];omega)
  all_goals refine ⟨au.fn rfl hV ?_⟩
  all_goals (repeat' (first|omega|(try apply ag);simp only [go_sem,sevalprocAttr]|apply ae<;>(intro h_;(try simp only [h_]);revert h_)|apply And.intro|with_reducible intro h_|trivial|simp only [go_sem,ah];omega))
  all_goals exact az.refl _
 |true=>
  rw [hv] at hV;rw [if_pos rfl];have hp:=(jb hv).prd;have fv:=hp.ok.1;refine Fn.ai [.tmp 2] Tryz.func28 rfl rfl (by decide) (by simp [Tryz.ntmps28]) ?_;rw [Tryz.ntmps28]
  repeat' (first|omega|(try apply ag);simp only [go_sem,sevalprocAttr]|apply ae<;>(intro h_;(try simp only [h_]);revert h_)|apply And.intro|with_reducible intro h_|trivial|simp only [go_sem,ah];omega)
  all_goals refine ⟨au.fn rfl hV ?_⟩
  all_goals (repeat' (first|omega|(try apply ag);simp only [go_sem,sevalprocAttr,zzC]|apply ae<;>(intro h_;(try simp only [h_]);revert h_)|apply And.intro|with_reducible intro h_|trivial|simp only [go_sem,ah];omega))
  refine aR.intro (fun n' fr H=> ∃k:Nat,k<=s.length/\n'=s.length-k/\fr=[(25,I k),(24,I s.length),(4, .sl 1 2 0 k),(3, .sl 1 1 0 s.length),(1, .ptr 0 0)]/\
   H=[(2, .cells 3 (.ints (ib m s.length k))),(1, .cells 4 (.bools (my s.length (ib m s.length k)))),(0, .cells 24 (.lst [roI s,roI m,I L]))]) ?_ ?_
  ·refine ⟨_,_,_,Wk.sub ?_ ?_,0,by omega,rfl,rfl,rfl⟩
   ·simp only [go_sem,sevalprocAttr]
   ·simp only [go_sem,sevalprocAttr,FK,ib,List.replicate_zero]
  rintro n' fr H ⟨k,hk,rfl,rfl,rfl⟩;have cI:=zL m s.length k;obtain ⟨o,qv⟩: ∃o,ib m s.length k=o:=⟨_,rfl⟩;have dL:=D1 s.length o;by_cases s8:k<s.length
  ·have bk:decide ((k:Int)<s.length)=true:=by simp;omega
   have oJ:=WR m s.length k s8;have Tk:=Gh m (ib m s.length k) s.length;have qw:ib m s.length (k+1)=o++[fm m o s.length]:=by simp only [ib,qv]
   rw [qv] at oJ Tk cI⊢
   repeat' (first|omega|(try apply ag);simp only [go_sem,sevalprocAttr,bk]|apply ae<;>(intro h_;(try simp only [h_]);revert h_)|apply And.intro|with_reducible intro h_|trivial|simp only [go_sem,ah];omega)
   refine aR.intro (fun n' fr H=> ∃c:Nat,c<=s.length/\n'=s.length-c/\fr=[(30,I c),(29,I s.length),(5,I (fm m o c)),(6,I (nV m o c)),(25,I k),(24,I s.length),(4, .sl 1 2 0 k),(3, .sl 1 1 0 s.length),(1, .ptr 0 0)]/\
    H=[(2, .cells 3 (.ints o)),(1, .cells 4 (.bools (my s.length o))),(0, .cells 24 (.lst [roI s,roI m,I L]))]) ?_ ?_
   ·refine ⟨_,_,_,Wk.sub ?_ ?_,0,by omega,rfl,rfl,rfl⟩
    ·(simp only [go_sem,sevalprocAttr,fm,nV])<;>rfl
    ·simp only [go_sem,sevalprocAttr]
   rintro n' fr H ⟨c,hc,rfl,rfl,rfl⟩;by_cases LW:c<s.length
   ·have bc:decide ((c:Int)<s.length)=true:=by simp;omega
    have hg:=DI s.length o (x:=(c:Int)) (by omega) (by omega);rw [zzC] at hg;by_cases h1:(c:Int)∈o
    ·have b2:o.contains (c:Int)=true:=by simpa using h1
     have rT:fm m o (c+1)=fm m o c:=by simp only [fm];rw [if_pos h1]
     have y3:nV m o (c+1)=nV m o c:=by unfold nV;rw [rT]
     rw [b2] at hg
     repeat' (first|omega|(try apply ag);simp only [go_sem,sevalprocAttr,bc,hg,dL,zzC]|apply ae<;>(intro h_;(try simp only [h_]);revert h_)|apply And.intro|with_reducible intro h_|trivial|simp only [go_sem,ah];omega)
     refine ⟨_,_,_,?_,Wk.sub ?_ ?_,c+1,by omega,rfl,rfl,rfl⟩
     ·omega
     ·simp only [go_sem,sevalprocAttr,rT,y3]
     ·simp only [go_sem,sevalprocAttr]
    ·have b2:o.contains (c:Int)=false:=by simpa using h1
     have rT:fm m o (c+1)=if fm m o c<0\/eN m o (fm m o c).toNat 4<eN m o c 4 then (c:Int) else fm m o c:=by simp only [fm];rw [if_neg h1]
     rw [b2] at hg;have e4:(4*(c:Int)).toNat=4*c:=by omega
     have e5:(4*(c:Int)+4).toNat=4*c+4:=by omega
     have e6:4*c+4-4*c=4:=by omega
     have yS:=Oo (c:=c) fv (by omega)
     repeat' (first|omega|(try apply ag);simp only [go_sem,sevalprocAttr,bc,hg,dL,e4,e5,e6,zzC]|apply ae<;>(intro h_;(try simp only [h_]);revert h_)|apply And.intro|with_reducible intro h_|trivial|simp only [go_sem,ah];omega)
     refine aR.intro (fun n' fr H=> ∃j:Nat,j<=4/\n'=4-j/\fr=[(46,I j),(45,I 4),(44, .ro 1 4 (.ints ((m.drop (4*c)).take 4))),(8,I (eN m o c j)),(7,I c),(30,I c),(29,I s.length),(5,I (fm m o c)),(6,I (nV m o c)),(25,I k),(24,I s.length),(4, .sl 1 2 0 k),(3, .sl 1 1 0 s.length),(1, .ptr 0 0)]/\
      H=[(2, .cells 3 (.ints o)),(1, .cells 4 (.bools (my s.length o))),(0, .cells 24 (.lst [roI s,roI m,I L]))]) ?_ ?_
     ·refine ⟨_,_,_,Wk.sub ?_ ?_,0,by omega,rfl,rfl,rfl⟩
      ·(simp only [go_sem,sevalprocAttr,eN])<;>rfl
      ·simp only [go_sem,sevalprocAttr]
     rintro n' fr H ⟨j,hj,rfl,rfl,rfl⟩;have Th:=QW m o c j;by_cases hj4:j<4
     ·have bj:decide ((j:Int)<4)=true:=by simp;omega
      have vC:=AE (m:=m) (c:=c) hj4;have hy:=hp.ok.2 (4*c+j) (by omega);obtain ⟨y,Bn⟩: ∃y:Nat,m.getD (4*c+j) 0=y:=⟨(m.getD (4*c+j) 0).toNat,by omega⟩;have dZ:eN m o c (j+1)=eN m o c j+if (y:Int)/4∈o then 1 else 0:=by simp only [eN,Bn]
      have vF:(y:Int).tdiv 4=(y:Int)/4:=Int.tdiv_eq_ediv_of_nonneg (by omega);have oG:=DI s.length o (x:=(y:Int)/4) (by omega) (by omega);have hq:((y:Int)/4).toNat=y/4:=by omega
      rw [hq] at oG;rw [Bn] at vC;by_cases h2:(y:Int)/4∈o
      ·rw [if_pos h2] at dZ;have b3:o.contains ((y:Int)/4)=true:=by simpa using h2
       rw [b3] at oG
       repeat' (first|omega|(try apply ag);simp only [go_sem,sevalprocAttr,bj,vC,yS,vF,oG,dL,hq]|apply ae<;>(intro h_;(try simp only [h_]);revert h_)|apply And.intro|with_reducible intro h_|trivial|simp only [go_sem,ah];omega)
       refine ⟨_,_,_,?_,Wk.sub ?_ ?_,j+1,by omega,rfl,rfl,rfl⟩
       ·omega
       ·(simp only [go_sem,sevalprocAttr,dZ])<;>rfl
       ·simp only [go_sem,sevalprocAttr]
      ·rw [if_neg h2,Nat.add_zero] at dZ;have b3:o.contains ((y:Int)/4)=false:=by simpa using h2
       rw [b3] at oG
       repeat' (first|omega|(try apply ag);simp only [go_sem,sevalprocAttr,bj,vC,yS,vF,oG,dL,hq]|apply ae<;>(intro h_;(try simp only [h_]);revert h_)|apply And.intro|with_reducible intro h_|trivial|simp only [go_sem,ah];omega)
       refine ⟨_,_,_,?_,Wk.sub ?_ ?_,j+1,by omega,rfl,rfl,rfl⟩
       ·omega
       ·simp only [go_sem,sevalprocAttr,dZ]
       ·simp only [go_sem,sevalprocAttr]
     ·obtain rfl:j=4:=by omega
      have bj:decide (((4:Nat):Int)<4)=false:=by decide
      by_cases h3:fm m o c<0\/eN m o (fm m o c).toNat 4<eN m o c 4
      ·rw [if_pos h3] at rT;have b4:decide (nV m o c<(eN m o c 4:Int))=true:=by
        rw [decide_eq_true_eq];unfold nV
        split
        ·omega
        ·rcases h3 with h3|h3<;>omega
       have y3:nV m o (c+1)=eN m o c 4:=by
        unfold nV;rw [rT,if_neg (by omega),zzC]
       repeat' (first|omega|(try apply ag);simp only [go_sem,sevalprocAttr,bj,b4]|apply ae<;>(intro h_;(try simp only [h_]);revert h_)|apply And.intro|with_reducible intro h_|trivial|simp only [go_sem,ah];omega)
       refine ⟨_,_,_,?_,Wk.sub ?_ ?_,c+1,by omega,rfl,rfl,rfl⟩
       ·omega
       ·simp only [go_sem,sevalprocAttr,rT,y3]
       ·simp only [go_sem,sevalprocAttr]
      ·rw [if_neg h3] at rT;have b4:decide (nV m o c<(eN m o c 4:Int))=false:=by
        rw [decide_eq_false_iff_not];unfold nV
        split
        ·exact absurd (.inl (by assumption)) h3
        ·omega
       have y3:nV m o (c+1)=nV m o c:=by unfold nV;rw [rT]
       repeat' (first|omega|(try apply ag);simp only [go_sem,sevalprocAttr,bj,b4]|apply ae<;>(intro h_;(try simp only [h_]);revert h_)|apply And.intro|with_reducible intro h_|trivial|simp only [go_sem,ah];omega)
       refine ⟨_,_,_,?_,Wk.sub ?_ ?_,c+1,by omega,rfl,rfl,rfl⟩
       ·omega
       ·simp only [go_sem,sevalprocAttr,rT,y3]
       ·simp only [go_sem,sevalprocAttr]
   ·obtain rfl:c=s.length:=by omega
    have bc:decide ((s.length:Int)<s.length)=false:=by simp
    have aY:=Ge s.length o oJ Tk.2
    repeat' (first|omega|(try apply ag);simp only [go_sem,sevalprocAttr,bc,dL,aY,cI]|apply ae<;>(intro h_;(try simp only [h_]);revert h_)|apply And.intro|with_reducible intro h_|trivial|simp only [go_sem,ah];omega)
    refine ⟨_,_,_,?_,Wk.sub ?_ ?_,k+1,by omega,rfl,rfl,rfl⟩
    ·omega
    ·simp only [go_sem,sevalprocAttr,cI]
    ·simp only [go_sem,sevalprocAttr,aY,qw]
  ·obtain rfl:k=s.length:=by omega
   have bk:decide ((s.length:Int)<s.length)=false:=by simp
   repeat' (first|omega|(try apply ag);simp only [go_sem,sevalprocAttr,bk]|apply ae<;>(intro h_;(try simp only [h_]);revert h_)|apply And.intro|with_reducible intro h_|trivial|simp only [go_sem,ah];omega)
   all_goals (rw [List.take_of_length_le (by omega),cI];exact az.refl _)
end Go.Proofs.YtmdjdekgakidhaaGreatDoor
namespace Go.Proofs.YtmdjdekgakidhaaGreatDoor
set_option linter.unusedVariables false
set_option linter.unusedSimpArgs false
theorem RP {m o:List Int} {c:Nat} (h: ∀s,s<4->m.getD (4*c+s) 0/4∈o): ∀s,s<=4->eN m o c s=s
 |0,_=>rfl
 |s+1,hs=>by simp only [eN,RP h s (by omega),if_pos (h s (by omega))]
theorem Ka {n:Nat} {o:List Int} (h:iD n o) (hl:o.length=n) {c:Nat} (hc:c<n):(c:Int)∈o:=by
 rcases Classical.em ((c:Int)∈o) with g|g
 ·exact g
 ·exfalso;have h1:((c:Int)::o).Nodup:=List.nodup_cons.2 ⟨g,h.nd⟩;have h2:=M5 h1 (k:=(List.range n).map (Nat.cast:Nat->Int)) fun x hx=>by
   rcases List.mem_cons.1 hx with rfl|hx
   ·exact List.mem_map.2 ⟨c,List.mem_range.2 hc,rfl⟩
   ·have:=h.rg x hx
    exact List.mem_map.2 ⟨x.toNat,List.mem_range.2 (by omega),by omega⟩
  simp at h2;omega
theorem MY {m:List Int} {n:Nat} (hm:iN m n) {o:List Int} (h:iD n o) (hl:o.length=n): ∀r:List Int,(∀x∈r,0<=x/\x<n)->rfC m o r=0
 |[],_=>rfl
 |x::r,hr=>by
  have hx:=hr x (zzD ..);simp only [rfC,MY hm h hl r fun y hy=>hr y (zzE _ hy)];rw [RP (fun s hs=>by
   have:=hm.2 (4*x.toNat+s) (by omega)
   have h2:=Ka h hl (c:=(m.getD (4*x.toNat+s) 0/4).toNat) (by omega);rwa [show (((m.getD (4*x.toNat+s) 0/4).toNat:Nat):Int)=m.getD (4*x.toNat+s) 0/4 by omega] at h2) 4 (zzA _)]
  rfl
theorem AF {m:List Int} {n:Nat} (hm:iN m n) (hi: ∀x:Nat,x<4*n->m.getD (m.getD x 0).toNat 0=x) {o:List Int} (h:iD n o) (hl:o.length=n): ∀k,k<=n->oZ m o k<=2*n:=by
 have h0:l9 m o n=0:=by
  have:=QV hm hi h n (by omega)
  rw [List.take_of_length_le (by omega)] at this;rw [this];exact MY hm h hl o h.rg
 have hb: ∀d k,k+d=n->l9 m o k<=4*(d:Int):=by
  intro d
  induction d with
  |zero=>intro k hk;obtain rfl:k=n:=by omega
         rw [h0];omega
  |succ d ih=>
   intro k hk;have h1:=ih (k+1) (by omega);have h2:=D2 m (o.take k) (o.getD k 0) 4;simp only [l9] at h1;omega
 intro k
 induction k with
 |zero=>intro _;simp only [oZ];omega
 |succ k ih=>
  intro hk;have h1:=ih (by omega);have h2:=Gf m o (k+1);have h3:=hb (n-(k+1)) (k+1) (by omega);simp only [oZ];omega
end Go.Proofs.YtmdjdekgakidhaaGreatDoor
