/- Plain: the greedy order of the crossings; the width of an order. -/
import Derived.Test.YtphjphpmfflfpaaGreatDoorPl
import Derived.Test.YtphjphpmfflfpaaGreatDoorZa
import Derived.Test.YtphjphpmfflfpaaGreatDoorZj
import Derived.Test.YtphjphpmfflfpaaGreatDoorZb
import Derived.Test.YtphjphpmfflfpaaGreatDoorZg
namespace Go.Proofs.YtphjphpmfflfpaaGreatDoor
set_option linter.unusedVariables false
set_option linter.unusedSimpArgs false
def eN (m:List Int) (out:List Int) (c:Nat):Nat->Nat
 |0=>0
 |s+1=>eN m out c s+if m.getD (4*c+s) 0/4∈out then 1 else 0
theorem yE (m out:List Int) (c:Nat): ∀s,eN m out c s<=s
 |0=>Nat.le_refl _
 |s+1=>by have:=yE m out c s;simp only [eN];split<;>omega
def ga (m out:List Int):Nat->Int
 |0=> -1
 |c+1=>if (c:Int)∈out then ga m out c else if ga m out c<0\/eN m out (ga m out c).toNat 4<eN m out c 4 then (c:Int) else ga m out c
def jD (m:List Int) (n:Nat):Nat->List Int
 |0=>[]
 |k+1=>jD m n k++[ga m (jD m n k) n]
theorem G8 (m:List Int) (n:Nat): ∀k,(jD m n k).length=k
 |0=>rfl
 |k+1=>by simp [jD,G8 m n k]
theorem J1 (m out:List Int): ∀c,-1<=ga m out c/\ga m out c<c
 |0=>by simp [ga]
 |c+1=>by
  have:=J1 m out c
  simp only [ga]
  split
  ·omega
  ·split<;>omega
theorem Wi (m out:List Int): ∀c,0<=ga m out c->ga m out c∉out
 |0=>by simp [ga]
 |c+1=>by
  have:=Wi m out c
  simp only [ga]
  split
  ·exact this
  ·split
   ·rename_i h _;exact fun _=>h
   ·exact this
theorem Wh (m out:List Int): ∀c,ga m out c<0-> ∀x:Nat,x<c->(x:Int)∈out
 |0,_,x,hx=>by omega
 |c+1,h,x,hx=>by
  simp only [ga] at h
  split at h
  ·rename_i hc
   by_cases e:x=c
   ·rw [e];exact hc
   ·exact Wh m out c h x (by omega)
  ·split at h
   ·omega
   ·rename_i h2;exact absurd (.inl h) h2
structure jw (n:Nat) (o:List Int):Prop where
 nd:o.Nodup
 rg: ∀x∈o,0<=x/\x<n
theorem Wg {l k:List Int} (hl:l.Nodup) (h: ∀x∈l,x∈k):l.length<=k.length:=by
 induction l generalizing k with
 |nil=>exact Nat.zero_le _
 |cons x l ih=>
  have hx:=h x (List.mem_cons_self ..);have hn:=List.nodup_cons.1 hl
  have:=ih (k:=k.erase x) hn.2 fun y hy=>by
   have az:y≠x:=fun e=>hn.1 (e▸hy);exact (List.mem_erase_of_ne az).2 (h y (List.mem_cons_of_mem _ hy))
  rw [List.length_erase_of_mem hx] at this
  have:=List.length_pos_of_mem hx
  simp only [List.length_cons];omega
theorem J0 (m:List Int) (n:Nat): ∀k,k<=n->jw n (jD m n k)
 |0,_=>⟨by simp [jD],by simp [jD]⟩
 |k+1,hk=>by
  have ih:=J0 m n k (by omega);have h0:0<=ga m (jD m n k) n:=by
   rcases Int.lt_or_le (ga m (jD m n k) n) 0 with h|h
   ·exfalso;have h1:=Wh m (jD m n k) n h;have h2:=Wg (l:=(List.range n).map (Nat.cast:Nat->Int)) (k:=jD m n k) (by
     rw [List.nodup_iff_pairwise_ne,List.pairwise_map];exact (List.nodup_iff_pairwise_ne.1 List.nodup_range).imp fun h e=>h (by omega)) (fun x hx=>by
     obtain ⟨y,hy,rfl⟩:=List.mem_map.1 hx;exact h1 y (List.mem_range.1 hy))
    rw [G8] at h2;simp at h2;omega
   ·exact h
  have h1:=J1 m (jD m n k) n;have h2:=Wi m (jD m n k) n h0;simp only [jD];refine ⟨?_,fun x hx=>?_⟩
  ·rw [List.nodup_append];refine ⟨ih.nd,by simp,fun x hx y hy e=>?_⟩;simp only [List.mem_cons,List.not_mem_nil,or_false] at hy;exact h2 (hy▸e▸hx)
  ·rcases List.mem_append.1 hx with h|h
   ·exact ih.rg x h
   ·simp only [List.mem_cons,List.not_mem_nil,or_false] at h;subst h;exact ⟨h0,h1.2⟩
def q9 (m:List Int) (l:List Int) (c:Int):Nat->Int
 |0=>0
 |s+1=>q9 m l c s+if m.getD (4*c+s).toNat 0/4=c then 0 else if m.getD (4*c+s).toNat 0/4∈l then-1 else 1
def nZ (m o:List Int):Nat->Int
 |0=>0
 |k+1=>nZ m o k+q9 m (o.take k) (o.getD k 0) 4
def tf (m o:List Int):Nat->Int
 |0=>0
 |k+1=>max (tf m o k) (nZ m o (k+1))
theorem G7 (m l:List Int) (c:Int): ∀s:Nat,-(s:Int)<=q9 m l c s/\q9 m l c s<=s
 |0=>by simp [q9]
 |s+1=>by
  have:=G7 m l c s
  simp only [q9]
  split
  ·omega
  ·split<;>omega
theorem JZ (m o:List Int): ∀k:Nat,-(4*(k:Int))<=nZ m o k/\nZ m o k<=4*k
 |0=>by simp [nZ]
 |k+1=>by
  have h1:=JZ m o k;have h2:=G7 m (o.take k) (o.getD k 0) 4;simp only [nZ];omega
def rfC (m l:List Int):List Int->Int
 |[]=>0
 |c::r=>rfC m l r+(4-(eN m l c.toNat 4:Int))
def rH (m:List Int) (c:Int):List Int->Int
 |[]=>0
 |x::r=>rH m c r+(if m.getD (4*x.toNat) 0/4=c then 1 else 0)+(if m.getD (4*x.toNat+1) 0/4=c then 1 else 0)+(if m.getD (4*x.toNat+2) 0/4=c then 1 else 0)+(if m.getD (4*x.toNat+3) 0/4=c then 1 else 0)
theorem Wf {m l:List Int} {c:Int} (hc:c∉l) (x:Nat):(eN m (l++[c]) x 4:Int)=eN m l x 4+(if m.getD (4*x) 0/4=c then 1 else 0)+(if m.getD (4*x+1) 0/4=c then 1 else 0)+(if m.getD (4*x+2) 0/4=c then 1 else 0)+(if m.getD (4*x+3) 0/4=c then 1 else 0):=by
 have key: ∀y:Int,(if y∈l++[c] then 1 else 0:Nat)=(if y∈l then 1 else 0:Nat)+if y=c then 1 else 0:=fun y=>by
  by_cases h:y=c
  ·subst h;simp [hc]
  ·simp [h]
 simp only [eN,key,Nat.add_zero];have kc: ∀p:Prop,[Decidable p]->(((if p then 1 else 0:Nat):Nat):Int)=if p then 1 else 0:=fun p _=>by split<;>rfl
 simp only [Int.natCast_add,kc];omega
theorem So {m l:List Int} {c:Int} (hc:c∉l): ∀r:List Int,rfC m (l++[c]) r=rfC m l r-rH m c r
 |[]=>rfl
 |x::r=>by
  simp only [rfC,rH,So hc r,Wf hc];omega
theorem We (m l:List Int) (c:Int): ∀r:List Int,rfC m l (r++[c])=rfC m l r+(4-(eN m l c.toNat 4:Int))
 |[]=>by simp [rfC]
 |x::r=>by rw [List.cons_append];simp only [rfC,We m l c r];omega
def gR (l:List Int) (h:Int):Int:=if h/4∈l then 1 else 0
theorem U5 {m:List Int} {n:Nat} (hp:kh m n) (hi: ∀x:Nat,x<4*n->m.getD (m.getD x 0).toNat 0=x) {c:Nat} (hc:c<n): ∀l:List Int,jw n l->rH m c l=gR l (m.getD (4*c) 0)+gR l (m.getD (4*c+1) 0)+gR l (m.getD (4*c+2) 0)+gR l (m.getD (4*c+3) 0)
 |[],_=>by simp [rH,gR]
 |x::r,h=>by
  have hn:=List.nodup_cons.1 h.nd;have ih:=U5 hp hi hc r ⟨hn.2,fun y hy=>h.rg y (List.mem_cons_of_mem _ hy)⟩;have hx:=h.rg x (List.mem_cons_self ..);have key: ∀y:Int,gR (x::r) y=gR r y+if y/4=x then 1 else 0:=fun y=>by
   unfold gR;by_cases e:y/4=x
   ·rw [if_pos (by rw [e];exact List.mem_cons_self ..),if_neg (by rw [e];exact hn.1),if_pos e];rfl
   ·rw [if_neg e];by_cases e2:y/4∈r
    ·rw [if_pos (List.mem_cons_of_mem _ e2),if_pos e2];rfl
    ·rw [if_neg (fun g=>by rcases List.mem_cons.1 g with g|g;exact e g;exact e2 g),if_neg e2];rfl
  simp only [rH,key,ih];have r0:=fun (s:Nat) (hs:s<4)=>hp.2 (4*x.toNat+s) (by omega);have r1:=fun (t:Nat) (ht:t<4)=>hp.2 (4*c+t) (by omega);have i0:=fun (s:Nat) (hs:s<4)=>hi (4*x.toNat+s) (by omega);have i1:=fun (t:Nat) (ht:t<4)=>hi (4*c+t) (by omega);have a: ∀s t:Nat,s<4->t<4->(m.getD (4*x.toNat+s) 0=4*(c:Int)+t↔m.getD (4*c+t) 0=4*x+s):=fun s t hs ht=>by
   constructor
   ·intro e
    have:=i0 s hs
    rw [e,show (4*(c:Int)+t).toNat=4*c+t by omega] at this;omega
   ·intro e
    have:=i1 t ht
    rw [e,show (4*x+(s:Int)).toNat=4*x.toNat+s by omega] at this;omega
  have b: ∀s:Nat,s<4->(if m.getD (4*x.toNat+s) 0/4=(c:Int) then (1:Int) else 0)=(if m.getD (4*c) 0=4*x+s then 1 else 0)+(if m.getD (4*c+1) 0=4*x+s then 1 else 0)+(if m.getD (4*c+2) 0=4*x+s then 1 else 0)+(if m.getD (4*c+3) 0=4*x+s then 1 else 0):=fun s hs=>by
   have a0:=a s 0 hs (by omega);have a1:=a s 1 hs (by omega);have a2:=a s 2 hs (by omega);have a3:=a s 3 hs (by omega);have q:=r0 s hs;simp only [Nat.add_zero,Int.ofNat_zero,Int.add_zero,Int.natCast_zero,Int.natCast_one] at a0 a1 a2 a3
   repeat' split
   all_goals omega
  have d: ∀t:Nat,t<4->(if m.getD (4*c+t) 0/4=x then (1:Int) else 0)=(if m.getD (4*c+t) 0=4*x+(0:Nat) then 1 else 0)+(if m.getD (4*c+t) 0=4*x+(1:Nat) then 1 else 0)+(if m.getD (4*c+t) 0=4*x+(2:Nat) then 1 else 0)+(if m.getD (4*c+t) 0=4*x+(3:Nat) then 1 else 0):=fun t ht=>by
   have q:=r1 t ht
   repeat' split
   all_goals omega
  have b0:=b 0 (by omega);have b1:=b 1 (by omega);have b2:=b 2 (by omega);have b3:=b 3 (by omega);have d0:=d 0 (by omega);have d1:=d 1 (by omega);have d2:=d 2 (by omega);have d3:=d 3 (by omega);rw [Nat.add_zero] at b0 d0;rw [b0,b1,b2,b3,d0,d1,d2,d3];omega
theorem Nn {m:List Int} {n:Nat} (hp:kh m n) (hi: ∀x:Nat,x<4*n->m.getD (m.getD x 0).toNat 0=x) {c:Nat} (hc:c<n) {l:List Int} (hl:jw n l) (bO:(c:Int)∉l):rfC m (l++[(c:Int)]) (l++[(c:Int)])=rfC m l l+q9 m l c 4:=by
 have h:=U5 hp hi hc l hl;have q:=Wf (m:=m) bO c;rw [We,So bO,Int.toNat_natCast,h];have key: ∀y:Int,(if y/4=(c:Int) then (0:Int) else if y/4∈l then-1 else 1)=1-(if y/4=(c:Int) then 1 else 0)-2*gR l y:=fun y=>by
  unfold gR;by_cases e:y/4=(c:Int)
  ·rw [if_pos e,if_pos e,if_neg (by rw [e];exact bO)];rfl
  ·rw [if_neg e,if_neg e];split<;>rfl
 have ee:(eN m l c 4:Int)=gR l (m.getD (4*c) 0)+gR l (m.getD (4*c+1) 0)+gR l (m.getD (4*c+2) 0)+gR l (m.getD (4*c+3) 0):=by
  have kc: ∀p:Prop,[Decidable p]->(((if p then 1 else 0:Nat):Nat):Int)=if p then 1 else 0:=fun p _=>by split<;>rfl
  simp only [eN,gR,Int.natCast_add,kc,Nat.add_zero];simp
 simp only [q9,key];have t0:(4*(c:Int)+(0:Nat)).toNat=4*c:=by omega
 have t1:(4*(c:Int)+(1:Nat)).toNat=4*c+1:=by omega
 have t2:(4*(c:Int)+(2:Nat)).toNat=4*c+2:=by omega
 have t3:(4*(c:Int)+(3:Nat)).toNat=4*c+3:=by omega
 simp only [t0,t1,t2,t3];omega
theorem KG {n:Nat} {o:List Int} (h:jw n o) (k:Nat):jw n (o.take k):=⟨h.nd.sublist (List.take_sublist k o),fun x hx=>h.rg x (List.mem_of_mem_take hx)⟩
theorem B4 {o:List Int} {k:Nat} (h:k<o.length):o.take (k+1)=o.take k++[o.getD k 0]:=by
 rw [List.take_add_one,List.getD_eq_getElem?_getD,List.getElem?_eq_getElem h];rfl
theorem yG {m:List Int} {n:Nat} (hp:kh m n) (hi: ∀x:Nat,x<4*n->m.getD (m.getD x 0).toNat 0=x) {o:List Int} (h:jw n o): ∀k,k<=o.length->nZ m o k=rfC m (o.take k) (o.take k)
 |0,_=>by simp [nZ,rfC]
 |k+1,hk=>by
  have ih:=yG hp hi h k (by omega);have hm:o.getD k 0∈o:=by
   rw [List.getD_eq_getElem?_getD,List.getElem?_eq_getElem (show k<o.length by omega)];exact List.getElem_mem _
  have hr:=h.rg _ hm;have hnd:=(KG h (k+1)).nd;rw [B4 (show k<o.length by omega),List.nodup_append] at hnd;have az:o.getD k 0∉o.take k:=fun g=>hnd.2.2 _ g _ (List.mem_cons_self ..) rfl;have e:((o.getD k 0).toNat:Int)=o.getD k 0:=by omega
  have:=Nn hp hi (c:=(o.getD k 0).toNat) (by omega) (KG h k) (by rw [e];exact az)
  rw [e] at this;rw [B4 (show k<o.length by omega),this,←ih];rfl
open Go Go.RowKit
set_option maxRecDepth 100000
set_option maxHeartbeats 8000000
def yS (o:List Int) (n k:Nat):Bool:=decide (0<=o.getD k 0)&&decide (o.getD k 0<n)&& !((o.take k).contains (o.getD k 0))
def gdN (o:List Int) (n:Nat):Nat->Bool
 |0=>true
 |k+1=>gdN o n k&&yS o n k
def rf (o:List Int) (n:Nat):Bool:=(o.length==n)&&gdN o n o.length
def og (n:Nat) (l:List Int):List Bool:=(List.range n).map fun (c:Nat)=>l.contains (c:Int)
theorem G6 (n:Nat) (l:List Int):(og n l).length=n:=by simp [og]
theorem OK (n:Nat):og n []=List.replicate n false:=by
 apply List.ext_getElem?;intro i;by_cases h:i<n<;>simp [og,h]
theorem G5 (n:Nat) (l:List Int) {x:Int} (h0:0<=x) (h1:x<n):(og n l).getD x.toNat false=l.contains x:=by
 have:x.toNat<n:=by omega
 simp only [og,List.getD_eq_getElem?_getD,List.getElem?_map,List.getElem?_range this,Option.map_some,Option.getD_some];rw [show ((x.toNat:Nat):Int)=x by omega]
theorem JY (n:Nat) (l:List Int) {x:Int} (h0:0<=x) (h1:x<n):(og n l).set x.toNat true=og n (l++[x]):=by
 apply List.ext_getElem?;intro i;rw [List.getElem?_set,G6];by_cases e:x.toNat=i
 ·subst e;rw [if_pos rfl,if_pos (by omega)];simp only [og,List.getElem?_map,List.getElem?_range (show x.toNat<n by omega),Option.map_some];rw [show ((x.toNat:Nat):Int)=x by omega];simp
 ·rw [if_neg e];by_cases hi:i<n
  ·simp only [og,List.getElem?_map,List.getElem?_range hi,Option.map_some];congr 1
   have:(i:Int)≠x:=fun g=>e (by omega)
   simp [List.contains_eq_any_beq,this]
  ·simp [og,hi]
theorem Yk (o:List Int) (n:Nat) (ho:o.length<=100000) (hn:n<=100000):Fn Tryz.prog 117 [roI o,I n] (.bool (rf o n)):=by
 by_cases tH:o.length=n
 ·have b0:((o.length:Int)!=(n:Int))=false:=by simp [tH]
  have PG:rf o n=gdN o n n:=by unfold rf;rw [tH];simp
  rw [PG];refine Fn.aq [.tmp 4] Tryz.func117 rfl rfl (by decide) (by simp [Tryz.ntmps117]) ?_;rw [Tryz.ntmps117]
  repeat' (first|omega|(try apply ag);simp only [go_sem,sevalprocAttr,b0,tH,Int.toNat_natCast]|apply ah<;>(intro h_;(try simp only [h_]);revert h_)|apply ai|apply aj|apply ae|apply And.intro|with_reducible intro h_|trivial|simp only [go_sem,ak];omega)
  refine bV.intro (fun n' fr H=> ∃k:Nat,k<=n/\gdN o n k=true/\n'=n-k/\fr=[(16,I k),(15,I n),(14,roI o),(5, .sl 1 0 0 n),(0,roI o),(1,I n)]/\H=[(0, .cells 4 (.bools (og n (o.take k))))]) ?_ ?_
  ·refine ⟨_,_,_,?_,0,by omega,rfl,rfl,rfl,rfl⟩;refine Wk.sub ?_ ?_<;>(simp only [go_sem,sevalprocAttr,tH,OK,List.take_zero])
  rintro n' fr H ⟨k,hk,Am,rfl,rfl,rfl⟩;have cL:=G6 n (o.take k);by_cases wJ:k<n
  ·have bk:decide ((k:Int)<n)=true:=by simp;omega
   by_cases h1:0<=o.getD k 0/\o.getD k 0<n
   ·have b1:decide (o.getD k 0<0)=false:=by rw [decide_eq_false_iff_not];omega
    have b2:decide ((n:Int)<=o.getD k 0)=false:=by rw [decide_eq_false_iff_not];omega
    have hg:=G5 n (o.take k) h1.1 h1.2;have bH:=JY n (o.take k) h1.1 h1.2;rw [←B4 (show k<o.length by omega)] at bH;cases hc:(o.take k).contains (o.getD k 0) with
    |true=>
     rw [hc] at hg;have hf:gdN o n n=false:=by
      have key: ∀d,gdN o n (k+1+d)=false:=fun d=>by
       induction d with
       |zero=>simp only [gdN,yS,hc,Bool.not_true,Bool.and_false,Nat.add_zero]
       |succ d ih=>rw [←Nat.add_assoc];simp only [gdN,ih,Bool.false_and]
      have:=key (n-k-1)
      rwa [show k+1+(n-k-1)=n by omega] at this
     rw [hf]
     repeat' (first|omega|(try apply ag);simp only [go_sem,sevalprocAttr,bk,b1,b2,hg,cL,tH]|apply ah<;>(intro h_;(try simp only [h_]);revert h_)|apply ai|apply aj|apply ae|apply And.intro|with_reducible intro h_|trivial|simp only [go_sem,ak];omega)
     all_goals exact aR.refl _
    |false=>
     rw [hc] at hg;have jG:gdN o n (k+1)=true:=by simp only [gdN,yS,Am,hc];rw [decide_eq_true h1.1,decide_eq_true h1.2];rfl
     repeat' (first|omega|(try apply ag);simp only [go_sem,sevalprocAttr,bk,b1,b2,hg,cL,tH,bH]|apply ah<;>(intro h_;(try simp only [h_]);revert h_)|apply ai|apply aj|apply ae|apply And.intro|with_reducible intro h_|trivial|simp only [go_sem,ak];omega)
     refine ⟨_,_,_,?_,?_,k+1,by omega,jG,rfl,rfl,rfl⟩
     ·omega
     ·refine Wk.sub ?_ ?_<;>(simp only [go_sem,sevalprocAttr,tH,bH])
   ·have hf:gdN o n n=false:=by
     have E5:yS o n k=false:=by
      unfold yS;by_cases h2:0<=o.getD k 0
      ·rw [show decide (o.getD k 0<n)=false by rw [decide_eq_false_iff_not];exact fun h=>h1 ⟨h2,h⟩];simp
      ·rw [show decide (0<=o.getD k 0)=false by rw [decide_eq_false_iff_not];exact h2];simp
     have key: ∀d,gdN o n (k+1+d)=false:=fun d=>by
      induction d with
      |zero=>simp only [gdN,E5,Bool.and_false,Nat.add_zero]
      |succ d ih=>rw [←Nat.add_assoc];simp only [gdN,ih,Bool.false_and]
     have:=key (n-k-1)
     rwa [show k+1+(n-k-1)=n by omega] at this
    rw [hf];by_cases h2:o.getD k 0<0
    ·have b1:decide (o.getD k 0<0)=true:=by simpa using h2
     repeat' (first|omega|(try apply ag);simp only [go_sem,sevalprocAttr,bk,b1,cL,tH]|apply ah<;>(intro h_;(try simp only [h_]);revert h_)|apply ai|apply aj|apply ae|apply And.intro|with_reducible intro h_|trivial|simp only [go_sem,ak];omega)
     all_goals exact aR.refl _
    ·have b1:decide (o.getD k 0<0)=false:=by simpa using h2
     have b2:decide ((n:Int)<=o.getD k 0)=true:=by rw [decide_eq_true_eq];omega
     repeat' (first|omega|(try apply ag);simp only [go_sem,sevalprocAttr,bk,b1,b2,cL,tH]|apply ah<;>(intro h_;(try simp only [h_]);revert h_)|apply ai|apply aj|apply ae|apply And.intro|with_reducible intro h_|trivial|simp only [go_sem,ak];omega)
     all_goals exact aR.refl _
  ·obtain rfl:k=n:=by omega
   have bk:decide ((k:Int)<k)=false:=by simp
   rw [Am]
   repeat' (first|omega|(try apply ag);simp only [go_sem,sevalprocAttr,bk,tH]|apply ah<;>(intro h_;(try simp only [h_]);revert h_)|apply ai|apply aj|apply ae|apply And.intro|with_reducible intro h_|trivial|simp only [go_sem,ak];omega)
   all_goals exact aR.refl _
 ·have b0:((o.length:Int)!=(n:Int))=true:=by simp;omega
  have PG:rf o n=false:=by unfold rf;rw [show (o.length==n)=false by simpa using tH];rfl
  rw [PG];refine Fn.aq [.tmp 4] Tryz.func117 rfl rfl (by decide) (by simp [Tryz.ntmps117]) ?_;rw [Tryz.ntmps117]
  repeat' (first|omega|(try apply ag);simp only [go_sem,sevalprocAttr,b0]|apply ah<;>(intro h_;(try simp only [h_]);revert h_)|apply ai|apply aj|apply ae|apply And.intro|with_reducible intro h_|trivial|simp only [go_sem,ak];omega)
  all_goals exact aR.refl _
theorem Wd {o:List Int} {n:Nat}: ∀k,k<=o.length->gdN o n k=true->jw n (o.take k)
 |0,_,_=>⟨by simp,by simp⟩
 |k+1,hk,h=>by
  simp only [gdN,yS,Bool.and_eq_true,decide_eq_true_eq,Bool.not_eq_true'] at h;obtain ⟨h1,⟨h2,h3⟩,h4⟩:=h;have ih:=Wd k (by omega) h1;rw [B4 (by omega)];refine ⟨?_,fun x hx=>?_⟩
  ·rw [List.nodup_append];refine ⟨ih.nd,by simp,fun x hx y hy e=>?_⟩;simp only [List.mem_cons,List.not_mem_nil,or_false] at hy;subst hy;subst e;simp at h4;exact h4 (by simpa using hx)
  ·rcases List.mem_append.1 hx with hx|hx
   ·exact ih.rg x hx
   ·simp only [List.mem_cons,List.not_mem_nil,or_false] at hx;subst hx;exact ⟨h2,h3⟩
theorem S0 {o:List Int} {n:Nat} (h:rf o n=true):jw n o/\o.length=n:=by
 simp only [rf,Bool.and_eq_true,beq_iff_eq] at h
 have:=Wd o.length (Nat.le_refl _) h.2
 rw [List.take_length] at this;exact ⟨this,h.1⟩
theorem Wc {o:List Int} {n:Nat} (h:jw n o): ∀k,k<=o.length->gdN o n k=true
 |0,_=>rfl
 |k+1,hk=>by
  have h1:=(KG h (k+1)).nd;rw [B4 (by omega),List.nodup_append] at h1;have hm:o.getD k 0∈o:=by
   rw [List.getD_eq_getElem?_getD,List.getElem?_eq_getElem (show k<o.length by omega)];exact List.getElem_mem _
  have h2:=h.rg _ hm;simp only [gdN,yS,Wc h k (by omega),Bool.true_and,Bool.and_eq_true,decide_eq_true_eq,Bool.not_eq_true'];refine ⟨h2,?_⟩;cases hc:(o.take k).contains (o.getD k 0) with
  |false=>rfl
  |true=>
   rw [List.contains_iff_mem] at hc;exact absurd rfl (h1.2.2 _ hc _ (List.mem_cons_self ..))
theorem SZ {o:List Int} {n:Nat} (h:jw n o) (hl:o.length=n):rf o n=true:=by
 unfold rf;rw [Wc h _ (Nat.le_refl _),hl];simp
theorem DC {m:List Int} {c j:Nat} (hj:j<4):((m.drop (4*c)).take 4).getD j 0=m.getD (4*c+j) 0:=by
 simp only [List.getD_eq_getElem?_getD,List.getElem?_take,hj,if_true,List.getElem?_drop]
theorem Sn {m:List Int} {c n:Nat} (hm:m.length=4*n) (hc:c<n):((m.drop (4*c)).take 4).length=4:=by
 rw [List.length_take,List.length_drop];omega
def zw (s m:List Int) (L:Int) (o:List Int):AV:=if bF s m L=true then (if rf o s.length=true then .tup [I (tf m o o.length),I 0] else .tup [I 0,I 2]) else .tup [I 0,I 1]
theorem ZA (s m:List Int) (L:Int) (o:List Int) (hs:s.length<=1000) (ho:o.length<=100000):Fn Tryz.prog 56 [dgA s m L,roI o] (zw s m L o):=by
 have hV:=l8 s m L;have hP:=Yk o s.length ho (by omega);unfold zw;cases hv:bF s m L with
 |false=>
  rw [hv] at hV;rw [if_neg (by simp)];refine Fn.aq [.tmp 4, .tmp 5] Tryz.func56 rfl rfl (by decide) (by simp [Tryz.ntmps56]) ?_;rw [Tryz.ntmps56]
  repeat' (first|omega|(try apply ag);simp only [go_sem,sevalprocAttr]|apply ah<;>(intro h_;(try simp only [h_]);revert h_)|apply ai|apply aj|apply ae|apply And.intro|with_reducible intro h_|trivial|simp only [go_sem,ak];omega)
  all_goals refine ⟨aA.fn rfl hV ?_⟩
  all_goals (repeat' (first|omega|(try apply ag);simp only [go_sem,sevalprocAttr]|apply ah<;>(intro h_;(try simp only [h_]);revert h_)|apply ai|apply aj|apply ae|apply And.intro|with_reducible intro h_|trivial|simp only [go_sem,ak];omega))
  all_goals exact aR.refl _
 |true=>
  rw [hv] at hV;rw [if_pos rfl];cases zY:rf o s.length with
  |false=>
   rw [zY] at hP;rw [if_neg (by simp)];refine Fn.aq [.tmp 4, .tmp 5] Tryz.func56 rfl rfl (by decide) (by simp [Tryz.ntmps56]) ?_;rw [Tryz.ntmps56]
   repeat' (first|omega|(try apply ag);simp only [go_sem,sevalprocAttr]|apply ah<;>(intro h_;(try simp only [h_]);revert h_)|apply ai|apply aj|apply ae|apply And.intro|with_reducible intro h_|trivial|simp only [go_sem,ak];omega)
   all_goals refine ⟨aA.fn rfl hV ?_⟩
   all_goals (repeat' (first|omega|(try apply ag);simp only [go_sem,sevalprocAttr]|apply ah<;>(intro h_;(try simp only [h_]);revert h_)|apply ai|apply aj|apply ae|apply And.intro|with_reducible intro h_|trivial|simp only [go_sem,ak];omega))
   all_goals refine ⟨aA.fn rfl hP ?_⟩
   all_goals (repeat' (first|omega|(try apply ag);simp only [go_sem,sevalprocAttr]|apply ah<;>(intro h_;(try simp only [h_]);revert h_)|apply ai|apply aj|apply ae|apply And.intro|with_reducible intro h_|trivial|simp only [go_sem,ak];omega))
   all_goals exact aR.refl _
  |true=>
   rw [zY] at hP;rw [if_pos rfl];obtain ⟨oF,dd⟩:=S0 zY;have hp:=(cK hv).prd;have iw:=hp.ok.1;refine Fn.aq [.tmp 4, .tmp 5] Tryz.func56 rfl rfl (by decide) (by simp [Tryz.ntmps56]) ?_;rw [Tryz.ntmps56]
   repeat' (first|omega|(try apply ag);simp only [go_sem,sevalprocAttr]|apply ah<;>(intro h_;(try simp only [h_]);revert h_)|apply ai|apply aj|apply ae|apply And.intro|with_reducible intro h_|trivial|simp only [go_sem,ak];omega)
   all_goals refine ⟨aA.fn rfl hV ?_⟩
   all_goals (repeat' (first|omega|(try apply ag);simp only [go_sem,sevalprocAttr]|apply ah<;>(intro h_;(try simp only [h_]);revert h_)|apply ai|apply aj|apply ae|apply And.intro|with_reducible intro h_|trivial|simp only [go_sem,ak];omega))
   all_goals refine ⟨aA.fn rfl hP ?_⟩
   all_goals (repeat' (first|omega|(try apply ag);simp only [go_sem,sevalprocAttr,Int.toNat_natCast]|apply ah<;>(intro h_;(try simp only [h_]);revert h_)|apply ai|apply aj|apply ae|apply And.intro|with_reducible intro h_|trivial|simp only [go_sem,ak];omega))
   refine bV.intro (fun n' fr H=> ∃k:Nat,k<=s.length/\n'=s.length-k/\fr=[(28,I k),(27,I s.length),(26,roI o),(8,I (tf m o k)),(7,I (nZ m o k)),(6, .sl 1 1 0 s.length),(2, .ptr 0 0)]/\
    H=[(1, .cells 4 (.bools (og s.length (o.take k)))),(0, .cells 24 (.lst [roI s,roI m,I L]))]) ?_ ?_
   ·refine ⟨_,_,_,Wk.sub ?_ ?_,0,by omega,rfl,rfl,rfl⟩
    ·simp only [go_sem,sevalprocAttr,dd,tf,nZ]
    ·simp only [go_sem,sevalprocAttr,OK,List.take_zero]
   rintro n' fr H ⟨k,hk,rfl,rfl,rfl⟩;have cL:=G6 s.length (o.take k);have vB:=JZ m o k;by_cases wJ:k<s.length
   ·have bk:decide ((k:Int)<s.length)=true:=by simp;omega
    have gT:o.getD k 0∈o:=by
     rw [List.getD_eq_getElem?_getD,List.getElem?_eq_getElem (show k<o.length by omega)];exact List.getElem_mem _
    have hx:=oF.rg _ gT;have bH:=JY s.length (o.take k) hx.1 hx.2;rw [←B4 (show k<o.length by omega)] at bH;obtain ⟨c,hc⟩: ∃c:Nat,o.getD k 0=c:=⟨(o.getD k 0).toNat,by omega⟩;have Qc:nZ m o (k+1)=nZ m o k+q9 m (o.take k) c 4:=by simp only [nZ,hc]
    rw [hc] at bH hx;rw [Int.toNat_natCast] at bH;have e4:(4*(c:Int)).toNat=4*c:=by omega
    have e5:(4*(c:Int)+4).toNat=4*c+4:=by omega
    have e6:4*c+4-4*c=4:=by omega
    have Ci:=Sn (c:=c) iw (by omega)
    repeat' (first|omega|(try apply ag);simp only [go_sem,sevalprocAttr,bk,hc,dd,e4,e5,e6,Int.toNat_natCast]|apply ah<;>(intro h_;(try simp only [h_]);revert h_)|apply ai|apply aj|apply ae|apply And.intro|with_reducible intro h_|trivial|simp only [go_sem,ak];omega)
    refine bV.intro (fun n' fr H=> ∃j:Nat,j<=4/\n'=4-j/\fr=[(41,I j),(40,I 4),(39, .ro 1 4 (.ints ((m.drop (4*c)).take 4))),(10,I c),(28,I k),(27,I s.length),(26,roI o),(8,I (tf m o k)),(7,I (nZ m o k+q9 m (o.take k) c j)),(6, .sl 1 1 0 s.length),(2, .ptr 0 0)]/\
     H=[(1, .cells 4 (.bools (og s.length (o.take k)))),(0, .cells 24 (.lst [roI s,roI m,I L]))]) ?_ ?_
    ·refine ⟨_,_,_,Wk.sub ?_ ?_,0,by omega,rfl,rfl,rfl⟩
     ·(simp only [go_sem,sevalprocAttr,dd,q9,Int.add_zero])<;>rfl
     ·simp only [go_sem,sevalprocAttr]
    rintro n' fr H ⟨j,hj,rfl,rfl,rfl⟩;have hsr:=G7 m (o.take k) c j;by_cases hj4:j<4
    ·have bj:decide ((j:Int)<4)=true:=by simp;omega
     have sJ:=DC (m:=m) (c:=c) hj4;have hy:=hp.ok.2 (4*c+j) (by omega);have e7:(4*(c:Int)+(j:Int)).toNat=4*c+j:=by omega
     obtain ⟨y,Eo⟩: ∃y:Nat,m.getD (4*c+j) 0=y:=⟨(m.getD (4*c+j) 0).toNat,by omega⟩;have fA:q9 m (o.take k) c (j+1)=q9 m (o.take k) c j+if (y:Int)/4=c then 0 else if (y:Int)/4∈o.take k then-1 else 1:=by simp only [q9,e7,Eo]
     have Cl:(y:Int).tdiv 4=(y:Int)/4:=Int.tdiv_eq_ediv_of_nonneg (by omega);have hg:=G5 s.length (o.take k) (x:=(y:Int)/4) (by omega) (by omega);have hq:((y:Int)/4).toNat=y/4:=by omega
     rw [hq] at hg;rw [Eo] at sJ;by_cases h1:(y:Int)/4=c
     ·have b1:((y:Int)/4==(c:Int))=true:=by simpa using h1
      rw [if_pos h1,Int.add_zero] at fA
      repeat' (first|omega|(try apply ag);simp only [go_sem,sevalprocAttr,bj,sJ,Ci,Cl,b1,dd]|apply ah<;>(intro h_;(try simp only [h_]);revert h_)|apply ai|apply aj|apply ae|apply And.intro|with_reducible intro h_|trivial|simp only [go_sem,ak];omega)
      refine ⟨_,_,_,?_,Wk.sub ?_ ?_,j+1,by omega,rfl,rfl,rfl⟩
      ·omega
      ·simp only [go_sem,sevalprocAttr,dd,fA]
      ·simp only [go_sem,sevalprocAttr]
     ·have b1:((y:Int)/4==(c:Int))=false:=by simpa using h1
      rw [if_neg h1] at fA;by_cases h2:(y:Int)/4∈o.take k
      ·rw [if_pos h2] at fA;have b2:(o.take k).contains ((y:Int)/4)=true:=by simpa using h2
       rw [b2] at hg
       repeat' (first|omega|(try apply ag);simp only [go_sem,sevalprocAttr,bj,sJ,Ci,Cl,b1,hg,cL,hq,dd]|apply ah<;>(intro h_;(try simp only [h_]);revert h_)|apply ai|apply aj|apply ae|apply And.intro|with_reducible intro h_|trivial|simp only [go_sem,ak];omega)
       refine ⟨_,_,_,?_,Wk.sub ?_ ?_,j+1,by omega,rfl,rfl,rfl⟩
       ·omega
       ·simp only [go_sem,sevalprocAttr,dd,fA];omega
       ·simp only [go_sem,sevalprocAttr]
      ·rw [if_neg h2] at fA;have b2:(o.take k).contains ((y:Int)/4)=false:=by simpa using h2
       rw [b2] at hg
       repeat' (first|omega|(try apply ag);simp only [go_sem,sevalprocAttr,bj,sJ,Ci,Cl,b1,hg,cL,hq,dd]|apply ah<;>(intro h_;(try simp only [h_]);revert h_)|apply ai|apply aj|apply ae|apply And.intro|with_reducible intro h_|trivial|simp only [go_sem,ak];omega)
       refine ⟨_,_,_,?_,Wk.sub ?_ ?_,j+1,by omega,rfl,rfl,rfl⟩
       ·omega
       ·simp only [go_sem,sevalprocAttr,dd,fA];omega
       ·simp only [go_sem,sevalprocAttr]
    ·obtain rfl:j=4:=by omega
     have bj:decide (((4:Nat):Int)<4)=false:=by decide
     rw [←Qc];have Ih:tf m o (k+1)=max (tf m o k) (nZ m o (k+1)):=rfl
     repeat' (first|omega|(try apply ag);simp only [go_sem,sevalprocAttr,bj,cL,bH,dd,Int.toNat_natCast]|apply ah<;>(intro h_;(try simp only [h_]);revert h_)|apply ai|apply aj|apply ae|apply And.intro|with_reducible intro h_|trivial|simp only [go_sem,ak];omega)
     refine ⟨_,_,_,?_,Wk.sub ?_ ?_,k+1,by omega,rfl,rfl,rfl⟩
     ·omega
     ·simp only [go_sem,sevalprocAttr,dd];rw [Ih];split<;>omega
     ·simp only [go_sem,sevalprocAttr,bH]
   ·obtain rfl:k=s.length:=by omega
    have bk:decide ((s.length:Int)<s.length)=false:=by simp
    repeat' (first|omega|(try apply ag);simp only [go_sem,sevalprocAttr,bk,dd]|apply ah<;>(intro h_;(try simp only [h_]);revert h_)|apply ai|apply aj|apply ae|apply And.intro|with_reducible intro h_|trivial|simp only [go_sem,ak];omega)
    all_goals exact aR.refl _
def pQ (m out:List Int) (c:Nat):Int:=if ga m out c<0 then-1 else (eN m out (ga m out c).toNat 4:Int)
theorem y5x (m:List Int) (n k:Nat) (hk:k<n):0<=ga m (jD m n k) n:=by
 have:=(J0 m n (k+1) (by omega)).rg (ga m (jD m n k) n) (by simp [jD])
 exact this.1
theorem Zz (s m:List Int) (L:Int) (hs:s.length<=1000):Fn Tryz.prog 54 [dgA s m L] (if bF s m L=true then roI (jD m s.length s.length) else .nils):=by
 have hV:=l8 s m L;cases hv:bF s m L with
 |false=>
  rw [hv] at hV;rw [if_neg (by simp)];refine Fn.aq [.tmp 2] Tryz.func54 rfl rfl (by decide) (by simp [Tryz.ntmps54]) ?_;rw [Tryz.ntmps54]
  repeat' (first|omega|(try apply ag);simp only [go_sem,sevalprocAttr]|apply ah<;>(intro h_;(try simp only [h_]);revert h_)|apply ai|apply aj|apply ae|apply And.intro|with_reducible intro h_|trivial|simp only [go_sem,ak];omega)
  all_goals refine ⟨aA.fn rfl hV ?_⟩
  all_goals (repeat' (first|omega|(try apply ag);simp only [go_sem,sevalprocAttr]|apply ah<;>(intro h_;(try simp only [h_]);revert h_)|apply ai|apply aj|apply ae|apply And.intro|with_reducible intro h_|trivial|simp only [go_sem,ak];omega))
  all_goals exact aR.refl _
 |true=>
  rw [hv] at hV;rw [if_pos rfl];have hp:=(cK hv).prd;have iw:=hp.ok.1;refine Fn.aq [.tmp 2] Tryz.func54 rfl rfl (by decide) (by simp [Tryz.ntmps54]) ?_;rw [Tryz.ntmps54]
  repeat' (first|omega|(try apply ag);simp only [go_sem,sevalprocAttr]|apply ah<;>(intro h_;(try simp only [h_]);revert h_)|apply ai|apply aj|apply ae|apply And.intro|with_reducible intro h_|trivial|simp only [go_sem,ak];omega)
  all_goals refine ⟨aA.fn rfl hV ?_⟩
  all_goals (repeat' (first|omega|(try apply ag);simp only [go_sem,sevalprocAttr,Int.toNat_natCast]|apply ah<;>(intro h_;(try simp only [h_]);revert h_)|apply ai|apply aj|apply ae|apply And.intro|with_reducible intro h_|trivial|simp only [go_sem,ak];omega))
  refine bV.intro (fun n' fr H=> ∃k:Nat,k<=s.length/\n'=s.length-k/\fr=[(25,I k),(24,I s.length),(4, .sl 1 2 0 k),(3, .sl 1 1 0 s.length),(1, .ptr 0 0)]/\
   H=[(2, .cells 3 (.ints (jD m s.length k))),(1, .cells 4 (.bools (og s.length (jD m s.length k)))),(0, .cells 24 (.lst [roI s,roI m,I L]))]) ?_ ?_
  ·refine ⟨_,_,_,Wk.sub ?_ ?_,0,by omega,rfl,rfl,rfl⟩
   ·simp only [go_sem,sevalprocAttr]
   ·simp only [go_sem,sevalprocAttr,OK,jD,List.replicate_zero]
  rintro n' fr H ⟨k,hk,rfl,rfl,rfl⟩;have dd:=G8 m s.length k;obtain ⟨o,vq⟩: ∃o,jD m s.length k=o:=⟨_,rfl⟩;have cL:=G6 s.length o;by_cases wJ:k<s.length
  ·have bk:decide ((k:Int)<s.length)=true:=by simp;omega
   have qQ:=y5x m s.length k wJ;have XG:=J1 m (jD m s.length k) s.length;have sN:jD m s.length (k+1)=o++[ga m o s.length]:=by simp only [jD,vq]
   rw [vq] at qQ XG dd⊢
   repeat' (first|omega|(try apply ag);simp only [go_sem,sevalprocAttr,bk]|apply ah<;>(intro h_;(try simp only [h_]);revert h_)|apply ai|apply aj|apply ae|apply And.intro|with_reducible intro h_|trivial|simp only [go_sem,ak];omega)
   refine bV.intro (fun n' fr H=> ∃c:Nat,c<=s.length/\n'=s.length-c/\fr=[(30,I c),(29,I s.length),(5,I (ga m o c)),(6,I (pQ m o c)),(25,I k),(24,I s.length),(4, .sl 1 2 0 k),(3, .sl 1 1 0 s.length),(1, .ptr 0 0)]/\
    H=[(2, .cells 3 (.ints o)),(1, .cells 4 (.bools (og s.length o))),(0, .cells 24 (.lst [roI s,roI m,I L]))]) ?_ ?_
   ·refine ⟨_,_,_,Wk.sub ?_ ?_,0,by omega,rfl,rfl,rfl⟩
    ·(simp only [go_sem,sevalprocAttr,ga,pQ])<;>rfl
    ·simp only [go_sem,sevalprocAttr]
   rintro n' fr H ⟨c,hc,rfl,rfl,rfl⟩;by_cases XF:c<s.length
   ·have bc:decide ((c:Int)<s.length)=true:=by simp;omega
    have hg:=G5 s.length o (x:=(c:Int)) (by omega) (by omega);rw [Int.toNat_natCast] at hg;by_cases h1:(c:Int)∈o
    ·have b2:o.contains (c:Int)=true:=by simpa using h1
     have uf:ga m o (c+1)=ga m o c:=by simp only [ga];rw [if_pos h1]
     have ER:pQ m o (c+1)=pQ m o c:=by unfold pQ;rw [uf]
     rw [b2] at hg
     repeat' (first|omega|(try apply ag);simp only [go_sem,sevalprocAttr,bc,hg,cL,Int.toNat_natCast]|apply ah<;>(intro h_;(try simp only [h_]);revert h_)|apply ai|apply aj|apply ae|apply And.intro|with_reducible intro h_|trivial|simp only [go_sem,ak];omega)
     refine ⟨_,_,_,?_,Wk.sub ?_ ?_,c+1,by omega,rfl,rfl,rfl⟩
     ·omega
     ·simp only [go_sem,sevalprocAttr,uf,ER]
     ·simp only [go_sem,sevalprocAttr]
    ·have b2:o.contains (c:Int)=false:=by simpa using h1
     have uf:ga m o (c+1)=if ga m o c<0\/eN m o (ga m o c).toNat 4<eN m o c 4 then (c:Int) else ga m o c:=by simp only [ga];rw [if_neg h1]
     rw [b2] at hg;have e4:(4*(c:Int)).toNat=4*c:=by omega
     have e5:(4*(c:Int)+4).toNat=4*c+4:=by omega
     have e6:4*c+4-4*c=4:=by omega
     have Ci:=Sn (c:=c) iw (by omega)
     repeat' (first|omega|(try apply ag);simp only [go_sem,sevalprocAttr,bc,hg,cL,e4,e5,e6,Int.toNat_natCast]|apply ah<;>(intro h_;(try simp only [h_]);revert h_)|apply ai|apply aj|apply ae|apply And.intro|with_reducible intro h_|trivial|simp only [go_sem,ak];omega)
     refine bV.intro (fun n' fr H=> ∃j:Nat,j<=4/\n'=4-j/\fr=[(46,I j),(45,I 4),(44, .ro 1 4 (.ints ((m.drop (4*c)).take 4))),(8,I (eN m o c j)),(7,I c),(30,I c),(29,I s.length),(5,I (ga m o c)),(6,I (pQ m o c)),(25,I k),(24,I s.length),(4, .sl 1 2 0 k),(3, .sl 1 1 0 s.length),(1, .ptr 0 0)]/\
      H=[(2, .cells 3 (.ints o)),(1, .cells 4 (.bools (og s.length o))),(0, .cells 24 (.lst [roI s,roI m,I L]))]) ?_ ?_
     ·refine ⟨_,_,_,Wk.sub ?_ ?_,0,by omega,rfl,rfl,rfl⟩
      ·(simp only [go_sem,sevalprocAttr,eN])<;>rfl
      ·simp only [go_sem,sevalprocAttr]
     rintro n' fr H ⟨j,hj,rfl,rfl,rfl⟩;have XC:=yE m o c j;by_cases hj4:j<4
     ·have bj:decide ((j:Int)<4)=true:=by simp;omega
      have sJ:=DC (m:=m) (c:=c) hj4;have hy:=hp.ok.2 (4*c+j) (by omega);obtain ⟨y,Eo⟩: ∃y:Nat,m.getD (4*c+j) 0=y:=⟨(m.getD (4*c+j) 0).toNat,by omega⟩;have fA:eN m o c (j+1)=eN m o c j+if (y:Int)/4∈o then 1 else 0:=by simp only [eN,Eo]
      have Cl:(y:Int).tdiv 4=(y:Int)/4:=Int.tdiv_eq_ediv_of_nonneg (by omega);have po:=G5 s.length o (x:=(y:Int)/4) (by omega) (by omega);have hq:((y:Int)/4).toNat=y/4:=by omega
      rw [hq] at po;rw [Eo] at sJ;by_cases h2:(y:Int)/4∈o
      ·rw [if_pos h2] at fA;have b3:o.contains ((y:Int)/4)=true:=by simpa using h2
       rw [b3] at po
       repeat' (first|omega|(try apply ag);simp only [go_sem,sevalprocAttr,bj,sJ,Ci,Cl,po,cL,hq]|apply ah<;>(intro h_;(try simp only [h_]);revert h_)|apply ai|apply aj|apply ae|apply And.intro|with_reducible intro h_|trivial|simp only [go_sem,ak];omega)
       refine ⟨_,_,_,?_,Wk.sub ?_ ?_,j+1,by omega,rfl,rfl,rfl⟩
       ·omega
       ·(simp only [go_sem,sevalprocAttr,fA])<;>rfl
       ·simp only [go_sem,sevalprocAttr]
      ·rw [if_neg h2,Nat.add_zero] at fA;have b3:o.contains ((y:Int)/4)=false:=by simpa using h2
       rw [b3] at po
       repeat' (first|omega|(try apply ag);simp only [go_sem,sevalprocAttr,bj,sJ,Ci,Cl,po,cL,hq]|apply ah<;>(intro h_;(try simp only [h_]);revert h_)|apply ai|apply aj|apply ae|apply And.intro|with_reducible intro h_|trivial|simp only [go_sem,ak];omega)
       refine ⟨_,_,_,?_,Wk.sub ?_ ?_,j+1,by omega,rfl,rfl,rfl⟩
       ·omega
       ·simp only [go_sem,sevalprocAttr,fA]
       ·simp only [go_sem,sevalprocAttr]
     ·obtain rfl:j=4:=by omega
      have bj:decide (((4:Nat):Int)<4)=false:=by decide
      by_cases h3:ga m o c<0\/eN m o (ga m o c).toNat 4<eN m o c 4
      ·rw [if_pos h3] at uf;have b4:decide (pQ m o c<(eN m o c 4:Int))=true:=by
        rw [decide_eq_true_eq];unfold pQ
        split
        ·omega
        ·rcases h3 with h3|h3<;>omega
       have ER:pQ m o (c+1)=eN m o c 4:=by
        unfold pQ;rw [uf,if_neg (by omega),Int.toNat_natCast]
       repeat' (first|omega|(try apply ag);simp only [go_sem,sevalprocAttr,bj,b4]|apply ah<;>(intro h_;(try simp only [h_]);revert h_)|apply ai|apply aj|apply ae|apply And.intro|with_reducible intro h_|trivial|simp only [go_sem,ak];omega)
       refine ⟨_,_,_,?_,Wk.sub ?_ ?_,c+1,by omega,rfl,rfl,rfl⟩
       ·omega
       ·simp only [go_sem,sevalprocAttr,uf,ER]
       ·simp only [go_sem,sevalprocAttr]
      ·rw [if_neg h3] at uf;have b4:decide (pQ m o c<(eN m o c 4:Int))=false:=by
        rw [decide_eq_false_iff_not];unfold pQ
        split
        ·exact absurd (.inl (by assumption)) h3
        ·omega
       have ER:pQ m o (c+1)=pQ m o c:=by unfold pQ;rw [uf]
       repeat' (first|omega|(try apply ag);simp only [go_sem,sevalprocAttr,bj,b4]|apply ah<;>(intro h_;(try simp only [h_]);revert h_)|apply ai|apply aj|apply ae|apply And.intro|with_reducible intro h_|trivial|simp only [go_sem,ak];omega)
       refine ⟨_,_,_,?_,Wk.sub ?_ ?_,c+1,by omega,rfl,rfl,rfl⟩
       ·omega
       ·simp only [go_sem,sevalprocAttr,uf,ER]
       ·simp only [go_sem,sevalprocAttr]
   ·obtain rfl:c=s.length:=by omega
    have bc:decide ((s.length:Int)<s.length)=false:=by simp
    have bH:=JY s.length o qQ XG.2
    repeat' (first|omega|(try apply ag);simp only [go_sem,sevalprocAttr,bc,cL,bH,dd]|apply ah<;>(intro h_;(try simp only [h_]);revert h_)|apply ai|apply aj|apply ae|apply And.intro|with_reducible intro h_|trivial|simp only [go_sem,ak];omega)
    refine ⟨_,_,_,?_,Wk.sub ?_ ?_,k+1,by omega,rfl,rfl,rfl⟩
    ·omega
    ·simp only [go_sem,sevalprocAttr,dd]
    ·simp only [go_sem,sevalprocAttr,bH,sN]
  ·obtain rfl:k=s.length:=by omega
   have bk:decide ((s.length:Int)<s.length)=false:=by simp
   repeat' (first|omega|(try apply ag);simp only [go_sem,sevalprocAttr,bk]|apply ah<;>(intro h_;(try simp only [h_]);revert h_)|apply ai|apply aj|apply ae|apply And.intro|with_reducible intro h_|trivial|simp only [go_sem,ak];omega)
   all_goals (rw [List.take_of_length_le (by omega),dd];exact aR.refl _)
end Go.Proofs.YtphjphpmfflfpaaGreatDoor
namespace Go.Proofs.YtphjphpmfflfpaaGreatDoor
set_option linter.unusedVariables false
set_option linter.unusedSimpArgs false
theorem Nl (p:List (Int×Int)) (g:Int->Int) (e:Int):cvL p (cS g) e=cS (cvL p g) e:=by
 induction p with
 |nil=>simp [cvL,cS]
 |cons t p ih=>
  simp only [cvL,ih,cS];rw [show e+2-t.1=e-t.1+2 by omega,show e-2-t.1=e-t.1-2 by omega,Int.mul_sub,Int.mul_neg];omega
theorem Nk (p:List (Int×Int)) (e:Int):cvL p (dpw 0) e=cfL p e:=by
 induction p with
 |nil=>rfl
 |cons t p ih=>
  simp only [cvL,cfL,ih,dpw];congr 1;by_cases h:t.1=e
  ·rw [if_pos h,if_pos (by omega)];simp
  ·rw [if_neg h,if_neg (by omega)];simp
theorem JX (p:List (Int×Int)): ∀(j:Nat) (e:Int),cvL p (dpw j) e=dmn j (cfL p) e
 |0,e=>Nk p e
 |j+1,e=>by
  have:dpw (j+1)=cS (dpw j):=rfl
  rw [this,Nl];exact B0 (JX p j) e
theorem Wb: ∀j:Nat,dpw j (2*(j:Int))≠0
 |0=>by simp [dpw]
 |j+1=>by
  have ih:=Wb j;have h0:dpw j (2*(j:Int)+4)=0:=by
   by_cases h:dpw j (2*(j:Int)+4)=0
   ·exact h
   ·have:=zo j _ h;omega
  simp only [dpw,cS];rw [show 2*((j+1:Nat):Int)+2=2*(j:Int)+4 by omega,show 2*((j+1:Nat):Int)-2=2*(j:Int) by omega,h0];omega
theorem C2 {j:Nat} (hj:j<=100) {e:Int} (h:dpw j e≠0): -1000<=e/\e<=1000:=by have:=zo j e h;omega
theorem C1 {j:Nat} (hj:j<=20) (e:Int): -1048576<=dpw j e/\dpw j e<=1048576:=by
 have h:=GN j e;have h2:2^j<=2^20:=Nat.pow_le_pow_right (by omega) hj;omega
theorem KF {q:List (Int×Int)} {j:Nat} (h:bZ q (dpw j)):j+1<=q.length/\fv q<=2*j/\ -(2*(j:Int))<=aS q:=by
 have az:q≠[]:=fun e=>by
  subst e;exact Wb j ((h.cf _).symm)
 have hr:=GJ h.asc h.cf (zo j);have qM:0<q.length:=List.length_pos_iff.2 az;have a:=hr _ (jW (i:=0) qM);have b:=hr _ (jW (i:=q.length-1) (by omega));refine ⟨Dx j q (dpw 0) h.asc ⟨0,fun e he=>by have:=zo 0 e he;omega⟩ (fun e=>?_) az,?_,?_⟩
 ·rw [h.cf];exact (Gz j e).symm.trans (tc (fun x=>rfl) j e)
 ·unfold fv;omega
 ·unfold aS;omega
theorem Wa {m:List Int} {n:Nat} (hp:aE m n) (hn:0<n) (L:Nat) (e:Int):aU m n L 1 e=dmn L (aU m n 0 1) e:=by
 have key: ∀e,aU m n L (L+1) e=aU m n 0 1 e:=fun e=>by
  unfold aU pc;refine dO fun k _=>?_;unfold cN
  have:=vU hp (cA k) hn
  rw [if_pos (by omega),if_pos (by omega),show aX m n (cA k)+L-(L+1)=aX m n (cA k)+0-1 by omega]
 cases L with
 |zero=>rfl
 |succ L=>
  have h1:=De (m:=m) (n:=n) (L:=L+1) L (by omega) e;rw [show L+1-L=1 by omega] at h1;rw [h1];have h2: ∀e,aU m n (L+1) (L+1) e=dmn 1 (aU m n 0 1) e:=fun e=>by
   have h3:=Hg (K:=2^n) (c:=cN m n (L+1)) (w:=wB n) (L+1) e;have h0:sM (2^n) (cN m n (L+1)) (wB n) (L+1) e=0:=by
    have:sM (2^n) (cN m n (L+1)) (wB n) (L+1) e=sm (fun _=>0) (2^n):=dO fun k _=>by
     rw [if_neg];rintro ⟨h2,_⟩
     have:=vU hp (cA k) hn
     unfold cN at h2;omega
    rw [this,k8];omega
   rw [h0,Int.add_zero] at h3;exact h3.trans (B0 key e)
  rw [tc h2 L e,KR]
theorem Sm (L:Nat) (e:Int):aU [] 0 (L+1) 1 e=dpw L e:=by
 have h0:aX [] 0 (cA 0)=0:=rfl;have h1:aU [] 0 (L+1) 1 e=0+if 1<=cN [] 0 (L+1) 0 then dpw (cN [] 0 (L+1) 0-1) (e-wB 0 0) else 0:=rfl;rw [h1];unfold cN wB;rw [h0,if_pos (by omega),show 0+(L+1)-1=L by omega];simp [jm]
theorem U4 {m o:List Int} {c:Nat} (h: ∀s,s<4->m.getD (4*c+s) 0/4∈o): ∀s,s<=4->eN m o c s=s
 |0,_=>rfl
 |s+1,hs=>by simp only [eN,U4 h s (by omega),if_pos (h s (by omega))]
theorem Nj {n:Nat} {o:List Int} (h:jw n o) (hl:o.length=n) {c:Nat} (hc:c<n):(c:Int)∈o:=by
 rcases Classical.em ((c:Int)∈o) with g|g
 ·exact g
 ·exfalso;have h1:((c:Int)::o).Nodup:=List.nodup_cons.2 ⟨g,h.nd⟩;have h2:=Wg h1 (k:=(List.range n).map (Nat.cast:Nat->Int)) fun x hx=>by
   rcases List.mem_cons.1 hx with rfl|hx
   ·exact List.mem_map.2 ⟨c,List.mem_range.2 hc,rfl⟩
   ·have:=h.rg x hx
    exact List.mem_map.2 ⟨x.toNat,List.mem_range.2 (by omega),by omega⟩
  simp at h2;omega
theorem V9 {m:List Int} {n:Nat} (hm:kh m n) {o:List Int} (h:jw n o) (hl:o.length=n): ∀r:List Int,(∀x∈r,0<=x/\x<n)->rfC m o r=0
 |[],_=>rfl
 |x::r,hr=>by
  have hx:=hr x (List.mem_cons_self ..);simp only [rfC,V9 hm h hl r fun y hy=>hr y (List.mem_cons_of_mem _ hy)];rw [U4 (fun s hs=>by
   have:=hm.2 (4*x.toNat+s) (by omega)
   have h2:=Nj h hl (c:=(m.getD (4*x.toNat+s) 0/4).toNat) (by omega);rwa [show (((m.getD (4*x.toNat+s) 0/4).toNat:Nat):Int)=m.getD (4*x.toNat+s) 0/4 by omega] at h2) 4 (Nat.le_refl _)]
  rfl
theorem DE {m:List Int} {n:Nat} (hm:kh m n) (hi: ∀x:Nat,x<4*n->m.getD (m.getD x 0).toNat 0=x) {o:List Int} (h:jw n o) (hl:o.length=n): ∀k,k<=n->tf m o k<=2*n:=by
 have h0:nZ m o n=0:=by
  have:=yG hm hi h n (by omega)
  rw [List.take_of_length_le (by omega)] at this;rw [this];exact V9 hm h hl o h.rg
 have hb: ∀d k,k+d=n->nZ m o k<=4*(d:Int):=by
  intro d
  induction d with
  |zero=>intro k hk;obtain rfl:k=n:=by omega
         rw [h0];omega
  |succ d ih=>
   intro k hk;have h1:=ih (k+1) (by omega);have h2:=G7 m (o.take k) (o.getD k 0) 4;simp only [nZ] at h1;omega
 intro k
 induction k with
 |zero=>intro _;simp only [tf];omega
 |succ k ih=>
  intro hk;have h1:=ih (by omega);have h2:=JZ m o (k+1);have h3:=hb (n-(k+1)) (k+1) (by omega);simp only [tf];omega
end Go.Proofs.YtphjphpmfflfpaaGreatDoor
