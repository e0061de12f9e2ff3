/- Layer 17: sweep is the sum over all states, at most 14 crossings. -/
import Derived.Test.YtmdjdekgakidhaaGreatDoorSx4
import Derived.Test.YtmdjdekgakidhaaGreatDoorPl
import Derived.Test.YtmdjdekgakidhaaGreatDoorZa
namespace Go.Proofs.YtmdjdekgakidhaaGreatDoor
open Go Go.RowKit
set_option maxRecDepth 100000
set_option maxHeartbeats 8000000
set_option linter.unusedVariables false
set_option linter.unusedSimpArgs false
theorem yaap {m:List Int} {n:Nat} {o:List Nat} {sd:List PE} (h:SdOk m n o n sd) (he:plE m o n=[]) (ho:o.drop n=[]): ∃g:PE,sd=[g]/\g.key=pS []/\(∀e,pfE g.lo g.cs e=brT m n 0 1 e):=by
 have hk: ∀g∈sd,g.key=pS []:=fun g hg=>by
  obtain ⟨h1,h2⟩:=h.ok.ok g hg
  rw [he] at h2
  rw [h1,List.length_eq_zero_iff.1 h2.len]
 match sd,h,hk with
 |[],h,_=>have:=h.pos;simp at this
 |[g],h,hk=>
  refine ⟨g,rfl,hk g (List.mem_cons_self ..),fun e=>?_⟩
  have:=h.va e
  rw [ho] at this
  simpa [sumG,vaS,finR] using this
 |g::g'::r,h,hk=>
  have h1:=h.ok.nd
  unfold yb4 at h1
  simp only [List.map_cons,List.nodup_cons,List.mem_cons,not_or] at h1
  exact absurd ((hk g (List.mem_cons_self ..)).trans (hk g' (List.mem_cons_of_mem _ (List.mem_cons_self ..))).symm) h1.1.1
theorem yaaq {m:List Int} {n:Nat} (hp:PmOk m n) (hn:n<=100) {e:Int} (he:brT m n 0 1 e≠0): -1000<=e/\e<=1000:=by
 have h1:=yep hp he
 have h2:=ycx hp (fun _=>true)
 have h3:=ycx hp (fun _=>false)
 omega
theorem swp14 {m:List Int} {n:Nat} (hp:PmOk m n) {o:List Nat} (hn:o.Nodup) (hl:o.length=n) (hr: ∀c∈o,c<n) (hn14:n<=14) (hn0:0<n):Swp m n o (fun k sd=>k<=n/\SdOk m n o k sd) (fun k sd sn G=>MdOk m n o k sd sn G):=by
 have h42:2^(3*n)<=2^42:=Nat.pow_le_pow_right (by omega) (by omega)
 refine ⟨⟨by omega,SdOk.init hp hn hl hr hn0⟩,fun {k sd} hk hS=>⟨hS.2.ok,?_,hS.2.pos,fun hkn g hg b=>?_,fun g hg=>?_⟩,fun {k sd} _=>MdOk.init m n o k sd,fun {k sd sn G} hk hS hM=>⟨hM.nd,hM.rg,hM.ok,hM.len,fun x hx=>?_⟩,fun {k sd sn G i g} hk hS hM hi hni=>hM.step hp hn hl hr hn14 hk hS.2 hi hni,fun {k sd sn G} hk hS hM ha=>⟨hk,hM.all hS.2 ha⟩,fun k hk=>?_⟩
 ·have h1:=hS.2.len
  have h2:2^k<=2^14:=Nat.pow_le_pow_right (by omega) (by omega)
  omega
 ·have h1:=ymz (F:=nuS m (o.drop k) (plE m o k)) hg
  have h2:=hS.2.nu
  rw [yda (show k<o.length by omega)] at h1 h2
  have:=nu_cc (Nat.le_trans h1 h2) b
  omega
 ·have:=y5r hS.2.nu hg;omega
 ·have:=hM.mx hS.2 hx;omega
 ·have:=(ye3 hp hn hl hr k hk).2;omega
theorem y4q (s m:List Int) (L:Int) (hp:PmOk m s.length) {o:List Nat} (hn:o.Nodup) (hl:o.length=s.length) (hr: ∀c∈o,c<s.length) (hn14:s.length<=14) (hn0:0<s.length):
  Fn Tryz.prog 73 [dgA s m L,roI (o.map (Nat.cast:Nat->Int))] (.tup [plA false (ybl (brT m s.length 0 1)), .bool true]):=by
 refine y1e s m L hp hn hl hr (by omega) hn0 (swp14 hp hn hl hr hn14 hn0) fun g hS=>?_
 obtain ⟨s1,s2⟩:=ye3 hp hn hl hr s.length (by omega)
 have hod:o.drop s.length=[]:=List.drop_eq_nil_of_le (by omega)
 have he0:plE m o s.length=[]:=yig hp s1.he fun c hc=>by
  rcases s1.al c hc with g|g
  ·exact g
  ·rw [hod] at g;simp at g
 obtain ⟨g',hg,_,hgp⟩:=yaap hS.2 he0 hod
 obtain rfl:g=g':=by simpa using hg
 exact yao.eq ⟨yk0 _ _,fun e=>by rw [yaao,hgp]⟩ fun e he=>yaaq hp (by omega) he
end Go.Proofs.YtmdjdekgakidhaaGreatDoor
namespace Go.Proofs.YtmdjdekgakidhaaGreatDoor
set_option linter.unusedVariables false
set_option linter.unusedSimpArgs false
def eN (m:List Int) (out:List Int) (c:Nat):Nat->Nat
 |0=>0
 |s+1=>eN m out c s+if m.getD (4*c+s) 0/4∈out then 1 else 0
theorem y5s (m out:List Int) (c:Nat): ∀s,eN m out c s<=s
 |0=>Nat.le_refl _
 |s+1=>by have:=y5s m out c s;simp only [eN];split<;>omega
def bsN (m out:List Int):Nat->Int
 |0=> -1
 |c+1=>if (c:Int)∈out then bsN m out c else if bsN m out c<0\/eN m out (bsN m out c).toNat 4<eN m out c 4 then (c:Int) else bsN m out c
def orN (m:List Int) (n:Nat):Nat->List Int
 |0=>[]
 |k+1=>orN m n k++[bsN m (orN m n k) n]
theorem yc7 (m:List Int) (n:Nat): ∀k,(orN m n k).length=k
 |0=>rfl
 |k+1=>by simp [orN,yc7 m n k]
theorem ype (m out:List Int): ∀c,-1<=bsN m out c/\bsN m out c<c
 |0=>by simp [bsN]
 |c+1=>by
  have:=ype m out c
  simp only [bsN]
  split
  ·omega
  ·split<;>omega
theorem ypf (m out:List Int): ∀c,0<=bsN m out c->bsN m out c∉out
 |0=>by simp [bsN]
 |c+1=>by
  have:=ypf m out c
  simp only [bsN]
  split
  ·exact this
  ·split
   ·rename_i h _;exact fun _=>h
   ·exact this
theorem ypg (m out:List Int): ∀c,bsN m out c<0-> ∀x:Nat,x<c->(x:Int)∈out
 |0,_,x,hx=>by omega
 |c+1,h,x,hx=>by
  simp only [bsN] at h
  split at h
  ·rename_i hc
   by_cases e:x=c
   ·rw [e];exact hc
   ·exact ypg m out c h x (by omega)
  ·split at h
   ·omega
   ·rename_i h2;exact absurd (.inl h) h2
structure PrmL (n:Nat) (o:List Int):Prop where
 nd:o.Nodup
 rg: ∀x∈o,0<=x/\x<n
theorem ywf {l k:List Int} (hl:l.Nodup) (h: ∀x∈l,x∈k):l.length<=k.length:=by
 induction l generalizing k with
 |nil=>exact Nat.zero_le _
 |cons x l ih=>
  have hx:=h x (List.mem_cons_self ..)
  have hn:=List.nodup_cons.1 hl
  have:=ih (k:=k.erase x) hn.2 fun y hy=>by
   have hne:y≠x:=fun e=>hn.1 (e▸hy)
   exact (List.mem_erase_of_ne hne).2 (h y (List.mem_cons_of_mem _ hy))
  rw [List.length_erase_of_mem hx] at this
  have:=List.length_pos_of_mem hx
  simp only [List.length_cons];omega
theorem ygt (m:List Int) (n:Nat): ∀k,k<=n->PrmL n (orN m n k)
 |0,_=>⟨by simp [orN],by simp [orN]⟩
 |k+1,hk=>by
  have ih:=ygt m n k (by omega)
  have h0:0<=bsN m (orN m n k) n:=by
   rcases Int.lt_or_le (bsN m (orN m n k) n) 0 with h|h
   ·exfalso
    have h1:=ypg m (orN m n k) n h
    have h2:=ywf (l:=(List.range n).map (Nat.cast:Nat->Int)) (k:=orN m n k) (by
     rw [List.nodup_iff_pairwise_ne,List.pairwise_map]
     exact (List.nodup_iff_pairwise_ne.1 List.nodup_range).imp fun h e=>h (by omega)) (fun x hx=>by
     obtain ⟨y,hy,rfl⟩:=List.mem_map.1 hx
     exact h1 y (List.mem_range.1 hy))
    rw [yc7] at h2
    simp at h2
    omega
   ·exact h
  have h1:=ype m (orN m n k) n
  have h2:=ypf m (orN m n k) n h0
  simp only [orN]
  refine ⟨?_,fun x hx=>?_⟩
  ·rw [List.nodup_append]
   refine ⟨ih.nd,by simp,fun x hx y hy e=>?_⟩
   simp only [List.mem_cons,List.not_mem_nil,or_false] at hy
   exact h2 (hy▸e▸hx)
  ·rcases List.mem_append.1 hx with h|h
   ·exact ih.rg x h
   ·simp only [List.mem_cons,List.not_mem_nil,or_false] at h
    subst h;exact ⟨h0,h1.2⟩
def ctS (m:List Int) (l:List Int) (c:Int):Nat->Int
 |0=>0
 |s+1=>ctS m l c s+if m.getD (4*c+s).toNat 0/4=c then 0 else if m.getD (4*c+s).toNat 0/4∈l then-1 else 1
def ctN (m o:List Int):Nat->Int
 |0=>0
 |k+1=>ctN m o k+ctS m (o.take k) (o.getD k 0) 4
def wdN (m o:List Int):Nat->Int
 |0=>0
 |k+1=>max (wdN m o k) (ctN m o (k+1))
theorem yim (m l:List Int) (c:Int): ∀s:Nat,-(s:Int)<=ctS m l c s/\ctS m l c s<=s
 |0=>by simp [ctS]
 |s+1=>by
  have:=yim m l c s
  simp only [ctS]
  split
  ·omega
  ·split<;>omega
theorem yph (m o:List Int): ∀k:Nat,-(4*(k:Int))<=ctN m o k/\ctN m o k<=4*k
 |0=>by simp [ctN]
 |k+1=>by
  have h1:=yph m o k
  have h2:=yim m (o.take k) (o.getD k 0) 4
  simp only [ctN];omega
def rfC (m l:List Int):List Int->Int
 |[]=>0
 |c::r=>rfC m l r+(4-(eN m l c.toNat 4:Int))
def insN (m:List Int) (c:Int):List Int->Int
 |[]=>0
 |x::r=>insN m c r+(if m.getD (4*x.toNat) 0/4=c then 1 else 0)+(if m.getD (4*x.toNat+1) 0/4=c then 1 else 0)+(if m.getD (4*x.toNat+2) 0/4=c then 1 else 0)+(if m.getD (4*x.toNat+3) 0/4=c then 1 else 0)
theorem ywg {m l:List Int} {c:Int} (hc:c∉l) (x:Nat):(eN m (l++[c]) x 4:Int)=eN m l x 4+(if m.getD (4*x) 0/4=c then 1 else 0)+(if m.getD (4*x+1) 0/4=c then 1 else 0)+(if m.getD (4*x+2) 0/4=c then 1 else 0)+(if m.getD (4*x+3) 0/4=c then 1 else 0):=by
 have key: ∀y:Int,(if y∈l++[c] then 1 else 0:Nat)=(if y∈l then 1 else 0:Nat)+if y=c then 1 else 0:=fun y=>by
  by_cases h:y=c
  ·subst h;simp [hc]
  ·simp [h]
 simp only [eN,key,Nat.add_zero]
 have kc: ∀p:Prop,[Decidable p]->(((if p then 1 else 0:Nat):Nat):Int)=if p then 1 else 0:=fun p _=>by split<;>rfl
 simp only [Int.natCast_add,kc]
 omega
theorem ytf {m l:List Int} {c:Int} (hc:c∉l): ∀r:List Int,rfC m (l++[c]) r=rfC m l r-insN m c r
 |[]=>rfl
 |x::r=>by
  simp only [rfC,insN,ytf hc r,ywg hc]
  omega
theorem ywh (m l:List Int) (c:Int): ∀r:List Int,rfC m l (r++[c])=rfC m l r+(4-(eN m l c.toNat 4:Int))
 |[]=>by simp [rfC]
 |x::r=>by rw [List.cons_append];simp only [rfC,ywh m l c r];omega
def indL (l:List Int) (h:Int):Int:=if h/4∈l then 1 else 0
theorem y1f {m:List Int} {n:Nat} (hp:ybb m n) (hi: ∀x:Nat,x<4*n->m.getD (m.getD x 0).toNat 0=x) {c:Nat} (hc:c<n): ∀l:List Int,PrmL n l->insN m c l=indL l (m.getD (4*c) 0)+indL l (m.getD (4*c+1) 0)+indL l (m.getD (4*c+2) 0)+indL l (m.getD (4*c+3) 0)
 |[],_=>by simp [insN,indL]
 |x::r,h=>by
  have hn:=List.nodup_cons.1 h.nd
  have ih:=y1f hp hi hc r ⟨hn.2,fun y hy=>h.rg y (List.mem_cons_of_mem _ hy)⟩
  have hx:=h.rg x (List.mem_cons_self ..)
  have key: ∀y:Int,indL (x::r) y=indL r y+if y/4=x then 1 else 0:=fun y=>by
   unfold indL
   by_cases e:y/4=x
   ·rw [if_pos (by rw [e];exact List.mem_cons_self ..),if_neg (by rw [e];exact hn.1),if_pos e];rfl
   ·rw [if_neg e]
    by_cases e2:y/4∈r
    ·rw [if_pos (List.mem_cons_of_mem _ e2),if_pos e2];rfl
    ·rw [if_neg (fun g=>by rcases List.mem_cons.1 g with g|g;exact e g;exact e2 g),if_neg e2];rfl
  simp only [insN,key,ih]
  have r0:=fun (s:Nat) (hs:s<4)=>hp.2 (4*x.toNat+s) (by omega)
  have r1:=fun (t:Nat) (ht:t<4)=>hp.2 (4*c+t) (by omega)
  have i0:=fun (s:Nat) (hs:s<4)=>hi (4*x.toNat+s) (by omega)
  have i1:=fun (t:Nat) (ht:t<4)=>hi (4*c+t) (by omega)
  have a: ∀s t:Nat,s<4->t<4->(m.getD (4*x.toNat+s) 0=4*(c:Int)+t↔m.getD (4*c+t) 0=4*x+s):=fun s t hs ht=>by
   constructor
   ·intro e
    have:=i0 s hs
    rw [e,show (4*(c:Int)+t).toNat=4*c+t by omega] at this
    omega
   ·intro e
    have:=i1 t ht
    rw [e,show (4*x+(s:Int)).toNat=4*x.toNat+s by omega] at this
    omega
  have b: ∀s:Nat,s<4->(if m.getD (4*x.toNat+s) 0/4=(c:Int) then (1:Int) else 0)=(if m.getD (4*c) 0=4*x+s then 1 else 0)+(if m.getD (4*c+1) 0=4*x+s then 1 else 0)+(if m.getD (4*c+2) 0=4*x+s then 1 else 0)+(if m.getD (4*c+3) 0=4*x+s then 1 else 0):=fun s hs=>by
   have a0:=a s 0 hs (by omega)
   have a1:=a s 1 hs (by omega)
   have a2:=a s 2 hs (by omega)
   have a3:=a s 3 hs (by omega)
   have q:=r0 s hs
   simp only [Nat.add_zero,Int.ofNat_zero,Int.add_zero,Int.natCast_zero,Int.natCast_one] at a0 a1 a2 a3
   repeat' split
   all_goals omega
  have d: ∀t:Nat,t<4->(if m.getD (4*c+t) 0/4=x then (1:Int) else 0)=(if m.getD (4*c+t) 0=4*x+(0:Nat) then 1 else 0)+(if m.getD (4*c+t) 0=4*x+(1:Nat) then 1 else 0)+(if m.getD (4*c+t) 0=4*x+(2:Nat) then 1 else 0)+(if m.getD (4*c+t) 0=4*x+(3:Nat) then 1 else 0):=fun t ht=>by
   have q:=r1 t ht
   repeat' split
   all_goals omega
  have b0:=b 0 (by omega)
  have b1:=b 1 (by omega)
  have b2:=b 2 (by omega)
  have b3:=b 3 (by omega)
  have d0:=d 0 (by omega)
  have d1:=d 1 (by omega)
  have d2:=d 2 (by omega)
  have d3:=d 3 (by omega)
  rw [Nat.add_zero] at b0 d0
  rw [b0,b1,b2,b3,d0,d1,d2,d3]
  omega
theorem y8r {m:List Int} {n:Nat} (hp:ybb m n) (hi: ∀x:Nat,x<4*n->m.getD (m.getD x 0).toNat 0=x) {c:Nat} (hc:c<n) {l:List Int} (hl:PrmL n l) (hcl:(c:Int)∉l):rfC m (l++[(c:Int)]) (l++[(c:Int)])=rfC m l l+ctS m l c 4:=by
 have h:=y1f hp hi hc l hl
 have q:=ywg (m:=m) hcl c
 rw [ywh,ytf hcl,Int.toNat_natCast,h]
 have key: ∀y:Int,(if y/4=(c:Int) then (0:Int) else if y/4∈l then-1 else 1)=1-(if y/4=(c:Int) then 1 else 0)-2*indL l y:=fun y=>by
  unfold indL
  by_cases e:y/4=(c:Int)
  ·rw [if_pos e,if_pos e,if_neg (by rw [e];exact hcl)];rfl
  ·rw [if_neg e,if_neg e];split<;>rfl
 have ee:(eN m l c 4:Int)=indL l (m.getD (4*c) 0)+indL l (m.getD (4*c+1) 0)+indL l (m.getD (4*c+2) 0)+indL l (m.getD (4*c+3) 0):=by
  have kc: ∀p:Prop,[Decidable p]->(((if p then 1 else 0:Nat):Nat):Int)=if p then 1 else 0:=fun p _=>by split<;>rfl
  simp only [eN,indL,Int.natCast_add,kc,Nat.add_zero]
  simp
 simp only [ctS,key]
 have t0:(4*(c:Int)+(0:Nat)).toNat=4*c:=by omega
 have t1:(4*(c:Int)+(1:Nat)).toNat=4*c+1:=by omega
 have t2:(4*(c:Int)+(2:Nat)).toNat=4*c+2:=by omega
 have t3:(4*(c:Int)+(3:Nat)).toNat=4*c+3:=by omega
 simp only [t0,t1,t2,t3]
 omega
theorem ym4 {n:Nat} {o:List Int} (h:PrmL n o) (k:Nat):PrmL n (o.take k):=⟨h.nd.sublist (List.take_sublist k o),fun x hx=>h.rg x (List.mem_of_mem_take hx)⟩
theorem yd6 {o:List Int} {k:Nat} (h:k<o.length):o.take (k+1)=o.take k++[o.getD k 0]:=by
 rw [List.take_add_one,List.getD_eq_getElem?_getD,List.getElem?_eq_getElem h];rfl
theorem yq4 {m:List Int} {n:Nat} (hp:ybb m n) (hi: ∀x:Nat,x<4*n->m.getD (m.getD x 0).toNat 0=x) {o:List Int} (h:PrmL n o): ∀k,k<=o.length->ctN m o k=rfC m (o.take k) (o.take k)
 |0,_=>by simp [ctN,rfC]
 |k+1,hk=>by
  have ih:=yq4 hp hi h k (by omega)
  have hm:o.getD k 0∈o:=by
   rw [List.getD_eq_getElem?_getD,List.getElem?_eq_getElem (show k<o.length by omega)]
   exact List.getElem_mem _
  have hr:=h.rg _ hm
  have hnd:=(ym4 h (k+1)).nd
  rw [yd6 (show k<o.length by omega),List.nodup_append] at hnd
  have hne:o.getD k 0∉o.take k:=fun g=>hnd.2.2 _ g _ (List.mem_cons_self ..) rfl
  have e:((o.getD k 0).toNat:Int)=o.getD k 0:=by omega
  have:=y8r hp hi (c:=(o.getD k 0).toNat) (by omega) (ym4 h k) (by rw [e];exact hne)
  rw [e] at this
  rw [yd6 (show k<o.length by omega),this,←ih]
  rfl
end Go.Proofs.YtmdjdekgakidhaaGreatDoor
set_option linter.unusedSimpArgs false
set_option linter.unusedVariables false
namespace Go.Proofs.YtmdjdekgakidhaaGreatDoor
open Go Go.RowKit
set_option maxRecDepth 100000
theorem ywi (h b:Int) (h0:0<=h) (h1:h<=100000):Fn Tryz.prog 116 [I h,I b] (I (ybu h b)):=y7m h b h0 h1
theorem ytg (s m:List Int) (L:Int) (hs:s.length<=1000) (hm:ybb m s.length):Fn Tryz.prog 76 [dgA s m L] (.bool (sphM m s.length)):=by
 obtain ⟨p1,p2,p3,p4⟩:=yj2 hm
 have hml:=hm.1
 refine Fn.intro [.tmp 2] Tryz.func76 rfl rfl (by decide) (by simp [Tryz.ntmps76]) ?_;rw [Tryz.ntmps76]
 repeat' (first|omega|(try apply yaa);simp only [go_sem,sevalprocAttr]|apply yad<;>(intro h_;(try simp only [h_]);revert h_)|apply yac|apply yab|apply gspI|apply And.intro|with_reducible intro h_|trivial|simp only [go_sem,la2];omega)
 refine ⟨yaf.fn rfl (y3t s m L hs hm) ?_⟩
 repeat' (first|omega|(try apply yaa);simp only [go_sem,sevalprocAttr]|apply yad<;>(intro h_;(try simp only [h_]);revert h_)|apply yac|apply yab|apply gspI|apply And.intro|with_reducible intro h_|trivial|simp only [go_sem,la2];omega)
 generalize hpt:(yat m s.length).1=part at*
 generalize hnp:(yat m s.length).2=np at*
 refine yai.intro (fun n fr H=> ∃k:Nat,k<=part.length/\n=part.length-k/\fr=[(22,I k),(21,I part.length),(20,roI part),(5, .sl 1 1 0 np.toNat),(3,roI part),(1, .ptr 0 0)]/\H=[(1, .cells 3 (.ints (decs part np.toNat k))),(0, .cells 24 (.lst [roI s,roI m,I L]))]) ?_ ?_
 ·refine ⟨_,_,_,?_,0,by omega,rfl,rfl,rfl⟩
  refine Wk.sub ?_ ?_<;>simp only [go_sem,sevalprocAttr]
  simp [decs]
 rintro n fr H ⟨k,hk,rfl,rfl,rfl⟩
 obtain ⟨d1,d2⟩:=yks part np.toNat k
 by_cases hkl:k<part.length
 ·have q4:=p4 k (by omega)
  have d3:=d2 (part.getD k 0).toNat
  repeat' (first|omega|(try apply yaa);simp only [go_sem,sevalprocAttr]|apply yad<;>(intro h_;(try simp only [h_]);revert h_)|apply yac|apply yab|apply gspI|apply And.intro|with_reducible intro h_|trivial|simp only [go_sem,la2];omega)
  refine ⟨_,_,_,?_,?_,⟨k+1,by omega,rfl,rfl,rfl⟩⟩
  ·omega
  ·refine Wk.sub ?_ ?_<;>simp only [go_sem,sevalprocAttr]
   rfl
 obtain rfl:k=part.length:=by omega
 repeat' (first|omega|(try apply yaa);simp only [go_sem,sevalprocAttr]|apply yad<;>(intro h_;(try simp only [h_]);revert h_)|apply yac|apply yab|apply gspI|apply And.intro|with_reducible intro h_|trivial|simp only [go_sem,la2];omega)
 refine yai.intro (fun n fr H=> ∃h:Nat,h<=m.length/\n=m.length-h/\fr=[(40,I h),(39,I m.length),(8, .sl 1 2 0 m.length),(5, .sl 1 1 0 np.toNat),(3,roI part),(1, .ptr 0 0)]/\H=[(2, .cells 4 (.bools (sphN m part np.toNat h).2)),(1, .cells 3 (.ints (sphN m part np.toNat h).1)),(0, .cells 24 (.lst [roI s,roI m,I L]))]) ?_ ?_
 ·refine ⟨_,_,_,?_,0,by omega,rfl,rfl,rfl⟩
  refine Wk.sub ?_ ?_<;>simp only [go_sem,sevalprocAttr]
  all_goals simp [sphN]
 rintro n fr H ⟨h,hh,rfl,rfl,rfl⟩
 obtain ⟨e1,e2,e3⟩:=ygl m part np.toNat h
 by_cases hhl:h<m.length
 ·have q4:=p4 (h/4) (by omega)
  have e4:=e3 (part.getD (h/4) 0).toNat
  have e5:(h:Int).tdiv 4=(h/4:Nat):=by rw [ykw (by omega)];omega
  have e6:((h:Int).toNat)=h:=by omega
  repeat' (first|omega|(try apply yaa);simp only [go_sem,sevalprocAttr,e5]|apply yad<;>(intro h_;(try simp only [h_]);revert h_)|apply yac|apply yab|apply gspI|apply And.intro|with_reducible intro h_|trivial|simp only [go_sem,la2];omega)
  ·have eS:sphN m part np.toNat (h+1)=sphN m part np.toNat h:=by
    simp only [sphN,sph1];rw [if_pos (by assumption)]
   refine ⟨_,_,_,?_,?_,⟨h+1,by omega,rfl,rfl,rfl⟩⟩
   ·omega
   ·refine Wk.sub ?_ ?_<;>(rw [eS];simp only [go_sem,sevalprocAttr])
  ·have hf:(sphN m part np.toNat h).2.getD h false=false:=by assumption
   have eS:sphN m part np.toNat (h+1)=((sphN m part np.toNat h).1.set (part.getD (h/4) 0).toNat ((sphN m part np.toNat h).1.getD (part.getD (h/4) 0).toNat 0+1),mark m (m.length+1) (sphN m part np.toNat h).2 h):=by
    simp only [sphN,sph1];rw [if_neg (nbt hf)]
   have hu:=y9x (sphN m part np.toNat h).2
   generalize (sphN m part np.toNat h).2=seen0 at*
   generalize (sphN m part np.toNat h).1.set (part.getD (h/4) 0).toNat ((sphN m part np.toNat h).1.getD (part.getD (h/4) 0).toNat 0+1)=exc at*
   refine yai.intro (fun f fr H=> ∃(seen:List Bool) (g:Int),unm seen<f/\seen.length=m.length/\0<=g/\g<4*s.length/\mark m f seen g=mark m (m.length+1) seen0 h/\
    fr=[(10,I g),(40,I h),(39,I m.length),(8, .sl 1 2 0 m.length),(5, .sl 1 1 0 np.toNat),(3,roI part),(1, .ptr 0 0)]/\H=[(2, .cells 4 (.bools seen)),(1, .cells 3 (.ints exc)),(0, .cells 24 (.lst [roI s,roI m,I L]))]) ?_ ?_
   ·refine ⟨m.length+1,_,_,?_,seen0,h,by omega,e2,by omega,by omega,rfl,rfl,rfl⟩
    refine Wk.sub ?_ ?_<;>simp only [go_sem,sevalprocAttr]
   rintro f fr H ⟨seen,g,hf1,hf2,hg0,hg1,hmk,rfl,rfl⟩
   obtain ⟨f',rfl⟩: ∃f',f=f'+1:=⟨f-1,by omega⟩
   have hmr:=hm.2 g.toNat (by omega)
   repeat' (first|omega|(try apply yaa);simp only [go_sem,sevalprocAttr]|apply yad<;>(intro h_;(try simp only [h_]);revert h_)|apply yac|apply yab|apply gspI|apply And.intro|with_reducible intro h_|trivial|simp only [go_sem,la2];omega)
   ·refine ⟨yaf.fn rfl (ywi _ _ hmr.1 (by omega)) ?_⟩
    repeat' (first|omega|(try apply yaa);simp only [go_sem,sevalprocAttr]|apply yad<;>(intro h_;(try simp only [h_]);revert h_)|apply yac|apply yab|apply gspI|apply And.intro|with_reducible intro h_|trivial|simp only [go_sem,la2];omega)
    have hsg:seen.getD g.toNat false=false:=by assumption
    have hus:=y7g (l:=seen) (i:=g.toNat) (by omega) hsg
    have htr:=yhv (b:= -1) hmr.1 hmr.2
    refine ⟨f',_,_,?_,?_,⟨seen.set g.toNat true,ybu (m.getD g.toNat 0) (-1),by omega,by simp [hf2],htr.1,htr.2,?_,rfl,rfl⟩⟩
    ·omega
    ·refine Wk.sub ?_ ?_<;>simp only [go_sem,sevalprocAttr]
    ·rw [←hmk];simp only [mark];rw [if_neg (nbt hsg)]
   ·have hsg:seen.getD g.toNat false=true:=by assumption
    have hmk2:seen=mark m (m.length+1) seen0 h:=by rw [←hmk];simp only [mark];rw [if_pos hsg]
    refine ⟨_,_,_,?_,?_,⟨h+1,by omega,rfl,rfl,rfl⟩⟩
    ·omega
    ·refine Wk.sub ?_ ?_<;>(rw [eS];simp only [go_sem,sevalprocAttr])
     exact hmk2
 obtain rfl:h=m.length:=by omega
 repeat' (first|omega|(try apply yaa);simp only [go_sem,sevalprocAttr]|apply yad<;>(intro h_;(try simp only [h_]);revert h_)|apply yac|apply yab|apply gspI|apply And.intro|with_reducible intro h_|trivial|simp only [go_sem,la2];omega)
 refine yai.intro (fun n fr H=> ∃k:Nat,k<=np.toNat/\n=np.toNat-k/\(∀i,i<k->(sphN m part np.toNat m.length).1.getD i 0=2)/\fr=[(75,I k),(74,I np.toNat),(73, .sl 1 1 0 np.toNat)]/\H=[(1, .cells 3 (.ints (sphN m part np.toNat m.length).1))]) ?_ ?_
 ·refine ⟨_,_,_,?_,0,by omega,rfl,by omega,rfl,rfl⟩
  refine Wk.sub ?_ ?_<;>simp only [go_sem,sevalprocAttr]
 rintro n fr H ⟨k,hk,rfl,hall,rfl,rfl⟩
 repeat' (first|omega|(try apply yaa);simp only [go_sem,sevalprocAttr]|apply yad<;>(intro h_;(try simp only [h_]);revert h_)|apply yac|apply yab|apply gspI|apply And.intro|with_reducible intro h_|trivial|simp only [go_sem,la2];omega)
 ·unfold sphM
  rw [hpt,hnp]
  exact (yxn (k:=k) (by rw [(ygl m part np.toNat m.length).1];omega) (by assumption)).symm
 ·refine ⟨_,_,_,?_,?_,⟨k+1,by omega,rfl,fun i hi=>?_,rfl,rfl⟩⟩
  ·omega
  ·refine Wk.sub ?_ ?_<;>simp only [go_sem,sevalprocAttr]
  ·rcases Nat.lt_or_ge i k with g|g
   ·exact hall i g
   ·rw [show i=k by omega];assumption
 ·unfold sphM
  rw [hpt,hnp]
  exact (yzl (fun i hi=>hall i (by rw [(ygl m part np.toNat m.length).1] at hi;omega))).symm
end Go.Proofs.YtmdjdekgakidhaaGreatDoor
set_option linter.unusedSimpArgs false
set_option linter.unusedVariables false
namespace Go.Proofs.YtmdjdekgakidhaaGreatDoor
open Go Go.RowKit
set_option maxRecDepth 100000
set_option maxHeartbeats 4000000
def y1g:Tr:= .node [(0, .node [(1, .node [(2, .node [(3, .node [(4, .node [(5, .node [(6, .done)])])]),(4, .node [(3, .node [(5, .node [(6, .done)])])])]),(3, .node [(2, .node [(4, .node [(5, .node [(6, .done)])])]),(4, .node [(2, .node [(5, .node [(6, .done)])])])]),(4, .node [(2, .node [(3, .node [(5, .node [(6, .done)])])]),(3, .node [(2, .node [(5, .node [(6, .done)])])])])]),(3, .node [(1, .node [(2, .node [(4, .node [(5, .node [(6, .done)])])]),(4, .node [(2, .node [(5, .node [(6, .done)])])])]),(4, .node [(1, .node [(2, .node [(5, .node [(6, .done)])])])])]),(4, .node [(1, .node [(2, .node [(3, .node [(5, .node [(6, .done)])])]),(3, .node [(2, .node [(5, .node [(6, .done)])])])]),(3, .node [(1, .node [(2, .node [(5, .node [(6, .done)])])])])])]),(1, .node [(0, .node [(2, .node [(3, .node [(4, .node [(5, .node [(6, .done)])])]),(4, .node [(3, .node [(5, .node [(6, .done)])])])]),(3, .node [(2, .node [(4, .node [(5, .node [(6, .done)])])]),(4, .node [(2, .node [(5, .node [(6, .done)])])])]),(4, .node [(2, .node [(3, .node [(5, .node [(6, .done)])])]),(3, .node [(2, .node [(5, .node [(6, .done)])])])])]),(3, .node [(0, .node [(2, .node [(4, .node [(5, .node [(6, .done)])])]),(4, .node [(2, .node [(5, .node [(6, .done)])])])]),(4, .node [(0, .node [(2, .node [(5, .node [(6, .done)])])])])]),(4, .node [(0, .node [(2, .node [(3, .node [(5, .node [(6, .done)])])]),(3, .node [(2, .node [(5, .node [(6, .done)])])])]),(3, .node [(0, .node [(2, .node [(5, .node [(6, .done)])])])])])]),(3, .node [(0, .node [(1, .node [(2, .node [(4, .node [(5, .node [(6, .done)])])]),(4, .node [(2, .node [(5, .node [(6, .done)])])])]),(4, .node [(1, .node [(2, .node [(5, .node [(6, .done)])])])])]),(1, .node [(0, .node [(2, .node [(4, .node [(5, .node [(6, .done)])])]),(4, .node [(2, .node [(5, .node [(6, .done)])])])]),(4, .node [(0, .node [(2, .node [(5, .node [(6, .done)])])])])]),(4, .node [(0, .node [(1, .node [(2, .node [(5, .node [(6, .done)])])])]),(1, .node [(0, .node [(2, .node [(5, .node [(6, .done)])])])])])]),(4, .node [(0, .node [(1, .node [(2, .node [(3, .node [(5, .node [(6, .done)])])]),(3, .node [(2, .node [(5, .node [(6, .done)])])])]),(3, .node [(1, .node [(2, .node [(5, .node [(6, .done)])])])])]),(1, .node [(0, .node [(2, .node [(3, .node [(5, .node [(6, .done)])])]),(3, .node [(2, .node [(5, .node [(6, .done)])])])]),(3, .node [(0, .node [(2, .node [(5, .node [(6, .done)])])])])]),(3, .node [(0, .node [(1, .node [(2, .node [(5, .node [(6, .done)])])])]),(1, .node [(0, .node [(2, .node [(5, .node [(6, .done)])])])])])])]
theorem ycc (s m:List Int) (L:Int):Fn Tryz.prog 33 [dgA s m L] (.bool (yah s m L)):=by
 refine Fn.intro [.tmp 2] Tryz.func33 rfl rfl (by decide) (by simp [Tryz.ntmps33]) ?_;rw [Tryz.ntmps33]
 repeat' (first|omega|(try apply yaa);simp only [go_sem,sevalprocAttr]|apply yad<;>(intro h_;(try simp only [h_]);revert h_)|apply yac|apply yab|apply gspI|apply And.intro|with_reducible intro h_|trivial|simp only [go_sem,la2];omega)
 ·exact vbF (by omega)
 rotate_left
 ·exact vbF (by omega)
 ·exact vbF (by omega)
 ·exact vbF (by omega)
 refine yai.intro (fun n fr H=> ∃k:Nat,k<=s.length/\n=s.length-k/\ydk s k/\fr=[(34,I k),(33,I s.length),(32,roI s),(3,I s.length),(1, .ptr 0 0)]/\H=[(0, .cells 24 (.lst [roI s,roI m,I L]))]) ?_ ?_
 ·refine ⟨_,_,_,?_,0,by omega,rfl,(fun i hi=>by omega),rfl,rfl⟩
  refine Wk.sub ?_ ?_<;>simp only [go_sem,sevalprocAttr]
 rintro n fr H ⟨k,hk,rfl,hso,rfl,rfl⟩
 repeat' (first|omega|(try apply yaa);simp only [go_sem,sevalprocAttr]|apply yad<;>(intro h_;(try simp only [h_]);revert h_)|apply yac|apply yab|apply gspI|apply And.intro|with_reducible intro h_|trivial|simp only [go_sem,la2];omega)
 ·exact vbF fun hv=>by have:=hv.2.2.2.2.1 k (by omega);omega
 ·refine ⟨_,_,_,?_,?_,⟨k+1,by omega,rfl,yj3 hso (by omega),rfl,rfl⟩⟩
  ·omega
  ·refine Wk.sub ?_ ?_<;>simp only [go_sem,sevalprocAttr]
 ·refine ⟨_,_,_,?_,?_,⟨k+1,by omega,rfl,yj3 hso (by omega),rfl,rfl⟩⟩
  ·omega
  ·refine Wk.sub ?_ ?_<;>simp only [go_sem,sevalprocAttr]
 obtain rfl:k=s.length:=by omega
 refine yai.intro (fun n fr H=> ∃k:Nat,k<=m.length/\n=m.length-k/\yd1 s m k/\fr=[(48,I k),(47,I m.length),(46,roI m),(3,I s.length),(1, .ptr 0 0)]/\H=[(0, .cells 24 (.lst [roI s,roI m,I L]))]) ?_ ?_
 ·refine ⟨_,_,_,?_,0,by omega,rfl,(fun i hi=>by omega),rfl,rfl⟩
  refine Wk.sub ?_ ?_<;>simp only [go_sem,sevalprocAttr]
 rintro n fr H ⟨h,hh,rfl,hmo,rfl,rfl⟩
 repeat' (first|omega|(first|apply yaa|(refine yae.intro (id:=15) [[76,78,79],[75,78,79],[78,79],[75,76,77,79],[75,76,77,78],[],[]] [[],[0],[],[0,1,2],[0,1,2,3],[],[]] (by decide+kernel) mixed ?_)|(refine yae.introT (id:=15) (y1g) (by decide+kernel) mixed ?_)|skip);simp only [go_sem,sevalprocAttr,↓reduceIte,reduceCtorEq,y1g]|apply yad<;>(intro h_;(try simp only [h_]);revert h_)|apply yac|apply yab|apply gspI|apply And.intro|with_reducible intro h_|trivial|simp only [go_sem,la2];omega)
 ·exact vbF fun hv=>by have:=hv.2.2.2.2.2 h (by omega);omega
 ·have h4:m.getD h 0<4*s.length:=by assumption
  refine ⟨yak.fn rfl (yl0 s m L h (by omega) (by omega) (by omega)) ?_⟩
  repeat' (first|omega|(try apply yaa);simp only [go_sem,sevalprocAttr]|apply yad<;>(intro h_;(try simp only [h_]);revert h_)|apply yac|apply yab|apply gspI|apply And.intro|with_reducible intro h_|trivial|simp only [go_sem,la2];omega)
  refine ⟨yak.fn rfl (yl0 s m L (m.getD h 0) (by assumption) h4 (by omega)) ?_⟩
  repeat' (first|omega|(try apply yaa);simp only [go_sem,sevalprocAttr]|apply yad<;>(intro h_;(try simp only [h_]);revert h_)|apply yac|apply yab|apply gspI|apply And.intro|with_reducible intro h_|trivial|simp only [go_sem,la2];omega)
  ·exact vbF fun hv=>by have:=hv.2.2.2.2.2 h (by omega);simp_all
  ·refine ⟨_,_,_,?_,?_,⟨h+1,by omega,rfl,yrt hmo ⟨by assumption,h4,by assumption,by assumption,by assumption⟩,rfl,rfl⟩⟩
   ·omega
   ·refine Wk.sub ?_ ?_<;>simp only [go_sem,sevalprocAttr]
 ·exact vbF fun hv=>by have:=hv.2.2.2.2.2 h (by omega);omega
 ·exact vbF fun hv=>by have:=hv.2.2.2.2.2 h (by omega);omega
 ·exact vbF fun hv=>by have:=hv.2.2.2.2.2 h (by omega);omega
 ·have hm:m.length=4*s.length:=by omega
  obtain rfl:h=4*s.length:=by omega
  refine ⟨yaf.fn rfl (ytg s m L (by omega) ⟨hm,fun i hi=>⟨(hmo i hi).1,(hmo i hi).2.1⟩⟩) ?_⟩
  repeat' (first|omega|(try apply yaa);simp only [go_sem,sevalprocAttr]|apply yad<;>(intro h_;(try simp only [h_]);revert h_)|apply yac|apply yab|apply gspI|apply And.intro|with_reducible intro h_|trivial|simp only [go_sem,la2];omega)
  exact vbT ⟨by omega,hm,by assumption,by assumption,hso,hmo⟩
abbrev dgC (s m:List Int) (L:Int):Cs:= .lst [roI s,roI m,I L]
attribute [go_sem] dgC
end Go.Proofs.YtmdjdekgakidhaaGreatDoor
