/- Layer 17: sweep's update in general; one state is expanded. -/
import Derived.Test.YtmdjdekgakidhaaDoorZk
import Derived.Test.YtmdjdekgakidhaaDoorSf1
namespace Go.Proofs.YtmdjdekgakidhaaDoor
open Go Go.RowKit
set_option maxRecDepth 100000
set_option maxHeartbeats 8000000
set_option linter.unusedVariables false
set_option linter.unusedSimpArgs false
structure GFit (G:List PE):Prop where
 nd:ybd G
 len:G.length<900000
 rg: ∀g∈G,-100000<=g.lo/\g.lo+2*(g.cs.length:Int)<=100000
 mx: ∀g∈G,mxN g.cs<=1152921504606846976
theorem yg8 {cs:List Int} (h:mxN cs<=1152921504606846976) (i:Nat): -1152921504606846976<=cs.getD i 0/\cs.getD i 0<=1152921504606846976:=by
 have:=ye0 cs i
 omega
theorem yke (sd:List PE) (sn:List Nat) (G:List PE) (s:ByteArray) (lo:Int) (cs:List Int) (hG:GFit G) (hp: ∀g∈G,g.key=s->(g.lo-lo)% 2=0) (hr: -100000<=lo/\lo+2*(cs.length:Int)<=100000) (hm:mxN cs<=1152921504606846976) (h0:0<cs.length) {fr fr1:Fr} {H0:Hp} {K:AV->Fr->Hp->Prop} (hfr:fr1.all (fun q=>s3 okH q.2)=true)
  (hw:Wk (frOf 0 [.str s,tpA lo cs, .ptr 1000003 0]++lft fr) H0 (frOf 0 [.str s,tpA lo cs, .ptr 1000003 0]++lft fr1) (swpH sd sn G))
  (hK:K (.tup []) fr1 (swpH sd sn (updE G s lo cs))):
  ybi Tryd.prog 26 [.str s,tpA lo cs, .ptr 1000003 0] fr H0 K:=by
 by_cases hx: ∃g∈G,g.key=s
 ·obtain ⟨g,hg,rfl⟩:=hx
  obtain ⟨j,hjl,hj⟩:=List.mem_iff_getElem.1 hg
  have hj':G[j]?=some g:=by rw [List.getElem?_eq_getElem hjl,hj]
  have hrg:=hG.rg g hg
  have hpg:=hp g hg rfl
  rw [yn3 G hG.nd hj'] at hK
  obtain ⟨a,b,lo',h1,h2,h3⟩:=yqo (cs:=cs) hpg
  rw [yqn a b _ lo' h1 h2 h3 rfl] at hK
  by_cases hf:a=0/\b+cs.length<=g.cs.length
  ·obtain ⟨rfl,hb⟩:=hf
   have e1:g.lo=lo':=by omega
   have e2:max (0+g.cs.length) (b+cs.length)=g.cs.length:=by omega
   rw [e2,ywo,←e1] at hK
   rw [←e1] at h2
   subst h2
   exact yqr sd sn G j b g cs (by have:=hG.len;omega) hG.nd hj' hb (by omega) (by omega) (yg8 (hG.mx g hg)) (yg8 hm) hfr hw hK
  ·exact yog sd sn G j a b _ lo' g lo cs (by have:=hG.len;omega) hG.nd hj' h1 h2 h3 (by omega) (by omega) (by omega) (by omega) (by omega) (by omega) (yg8 (hG.mx g hg)) (yg8 hm) hfr hw hK
 ·have hno: ∀g∈G,g.key≠s:=fun g hg e=>hx ⟨g,hg,e⟩
  rw [yn2 G hno] at hK
  exact yqs sd sn G s lo cs hG.len hG.nd hno (by omega) h0 hfr hw hK
section
variable {ok HF:Hp} (h: ∀k,(hget ok k).isSome=true->hget HF k=none)
include h
theorem yei (n:Nat): ∀(x:AV),s1 ok x=true->frzV HF (n+1) x=x/\frzP HF (n+1) x
 | .ptr k o,h1=>by simp only [frzV,frzP,h k h1];exact ⟨trivial,trivial⟩
 | .sl e k o l,h1=>by simp only [frzV,frzP,h k h1];exact ⟨trivial,trivial⟩
 | .mp k,h1=>⟨rfl,trivial⟩
 | .agg _,h1=>by cases h1
 | .tup _,h1=>by cases h1
 | .fn _ _,h1=>by cases h1
 | .any,_=>⟨rfl,trivial⟩
 | .int _ _,_=>⟨rfl,trivial⟩
 | .bool _,_=>⟨rfl,trivial⟩
 | .str _,_=>⟨rfl,trivial⟩
 | .nils,_=>⟨rfl,trivial⟩
 | .ro _ _ _,_=>⟨rfl,trivial⟩
 | .rp _ _,_=>⟨rfl,trivial⟩
omit h in
theorem yme {n:Nat} {xs:List AV} (h: ∀x∈xs,frzV HF n x=x/\frzP HF n x):xs.map (frzV HF n)=xs/\ ∀x∈xs,frzP HF n x:=by
 refine ⟨?_,fun x hx=>(h x hx).2⟩
 conv=>rhs;rw [←List.map_id xs]
 exact List.map_congr_left fun x hx=>(h x hx).1
theorem yk7 (n:Nat): ∀(x:AV),s2 ok x=true->frzV HF (n+2) x=x/\frzP HF (n+2) x
 | .agg xs,h1=>by have:=yme (n:=n+1) fun y hy=>yei h n y (List.all_eq_true.1 h1 y hy);exact ⟨congrArg AV.agg this.1,this.2⟩
 | .tup _,h1=>by cases h1
 | .fn f xs,h1=>by have:=yme (n:=n+1) fun y hy=>yei h n y (List.all_eq_true.1 h1 y hy);exact ⟨congrArg (AV.fn f) this.1,this.2⟩
 | .ptr k o,h1=>yei h (n+1) (.ptr k o) h1
 | .sl e k o l,h1=>yei h (n+1) (.sl e k o l) h1
 | .mp k,_=>⟨rfl,trivial⟩
 | .any,_=>⟨rfl,trivial⟩
 | .int _ _,_=>⟨rfl,trivial⟩
 | .bool _,_=>⟨rfl,trivial⟩
 | .str _,_=>⟨rfl,trivial⟩
 | .nils,_=>⟨rfl,trivial⟩
 | .ro _ _ _,_=>⟨rfl,trivial⟩
 | .rp _ _,_=>⟨rfl,trivial⟩
theorem yqt (n:Nat): ∀(x:AV),s3 ok x=true->frzV HF (n+3) x=x/\frzP HF (n+3) x
 | .agg xs,h1=>by have:=yme (n:=n+2) fun y hy=>yk7 h n y (List.all_eq_true.1 h1 y hy);exact ⟨congrArg AV.agg this.1,this.2⟩
 | .tup xs,h1=>by have:=yme (n:=n+2) fun y hy=>yk7 h n y (List.all_eq_true.1 h1 y hy);exact ⟨congrArg AV.tup this.1,this.2⟩
 | .fn f xs,h1=>by have:=yme (n:=n+2) fun y hy=>yk7 h n y (List.all_eq_true.1 h1 y hy);exact ⟨congrArg (AV.fn f) this.1,this.2⟩
 | .ptr k o,h1=>yei h (n+2) (.ptr k o) h1
 | .sl e k o l,h1=>yei h (n+2) (.sl e k o l) h1
 | .mp k,_=>⟨rfl,trivial⟩
 | .any,_=>⟨rfl,trivial⟩
 | .int _ _,_=>⟨rfl,trivial⟩
 | .bool _,_=>⟨rfl,trivial⟩
 | .str _,_=>⟨rfl,trivial⟩
 | .nils,_=>⟨rfl,trivial⟩
 | .ro _ _ _,_=>⟨rfl,trivial⟩
 | .rp _ _,_=>⟨rfl,trivial⟩
theorem ym9: ∀{fr:Fr},fr.all (fun q=>s3 ok q.2)=true->ycy HF (lft fr)=True/\frzF HF (lft fr)=lft fr
 |[],_=>⟨rfl,rfl⟩
 |(t,x)::fr,hf=>by
  simp only [List.all_cons,Bool.and_eq_true] at hf
  have h1:=yqt h 1 x hf.1
  have h2:=ym9 hf.2
  simp only [lft,ycy,frzF,h2.1,h2.2]
  exact ⟨by simp [h1.2],by rw [h1.1]⟩
theorem ysu: ∀{fr:Fr},fr.all (fun q=>s3 ok q.2)=true->ycy HF fr/\frzF HF fr=fr
 |[],_=>⟨trivial,rfl⟩
 |(t,x)::fr,hf=>by
  simp only [List.all_cons,Bool.and_eq_true] at hf
  have h1:=yqt h 1 x hf.1
  have h2:=ysu hf.2
  simp only [ycy,frzF,h2.2]
  exact ⟨⟨h1.2,h2.1⟩,by rw [h1.1]⟩
end
theorem yww {HF:Hp} (h: ∀k,k<1000005->hget HF k=none) (k:Nat) (hk:(hget okH k).isSome=true):hget HF k=none:=h k (by have:=yed hk;omega)
section
variable {HF:Hp} (h: ∀k,k<1000005->hget HF k=none)
include h
theorem ysv: ∀(G:List PE) (i:Nat),i+G.length<=900000->yca HF (rwE i G)=True/\frzH HF (rwE i G)=rwE i G
 |[],_,_=>⟨rfl,rfl⟩
 |g::G,i,hl=>by
  simp only [List.length_cons] at hl
  have:=ysv G (i+1) (by omega)
  simp only [rwE,yca,ycz,frzH,frzO,h (i+10) (by omega),this.1,this.2,and_self]
theorem y3k (sd:List PE) (sn:List Nat) (G:List PE) (hl:G.length<=900000):yca HF (swpH sd sn G)=True/\frzH HF (swpH sd sn G)=swpH sd sn G:=by
 have h1:=ysv h G 0 (by omega)
 have hv: ∀k lo n,0<=k->k<0+G.length->frzV HF 4 (.agg [I lo, .sl 1 (k+10) 0 n])= .agg [I lo, .sl 1 (k+10) 0 n]:=fun k lo n _ hk=>by
  simp only [frzV,List.map_cons,List.map_nil,h (k+10) (by omega)]
 have hD:(gmD 0 sd).map (fun q=>(q.1,q.2.1,frzV HF 4 q.2.2))=gmD 0 sd:=by
  conv=>rhs;rw [←List.map_id (gmD 0 sd)]
  exact List.map_congr_left fun q hq=>by obtain ⟨k,g,_,rfl⟩:=ybr _ _ _ hq;rfl
 constructor
 ·simp only [yca,ycz,h1.1,and_true,true_and,eq_iff_iff,iff_true]
  refine ⟨fun x hx=>?_,fun q hq=>?_,fun q hq=>?_,fun x hx=>?_⟩
  ·simp only [List.mem_cons,List.not_mem_nil,or_false] at hx;subst hx;trivial
  ·obtain ⟨k,g,hk,rfl⟩:=yji _ _ _ hq
   have hkl:=(List.getElem?_eq_some_iff.1 hk).1
   simp only [frzP,List.forall_mem_cons,h (0+k+10) (by omega)]
   exact ⟨trivial,trivial,by simp⟩
  ·obtain ⟨k,g,hk,rfl⟩:=ybr _ _ _ hq
   simp only [frzP,List.forall_mem_cons]
   exact ⟨trivial,trivial,by simp⟩
  ·simp only [List.mem_cons,List.not_mem_nil,or_false] at hx
   rcases hx with rfl|rfl<;>trivial
 ·simp only [frzH,frzO,h 1000004 (by omega),h 1000003 (by omega),h 1000002 (by omega),h 2 (by omega),h 1 (by omega),h 1000000 (by omega),h1.2,yjh G 0 hv,hD,List.map_cons,List.map_nil]
  rfl
end
theorem yf6 {sd:List PE} {sn:List Nat} {G:List PE} (hl:G.length<=900000) {k:Nat} (hk:1000005<=k):hget (swpH sd sn G) k=none:=by
 simp only [hget]
 repeat rw [if_neg (by omega)]
 exact yp7 (.inr (by omega))
theorem yg9 {sd:List PE} {sn:List Nat} {G:List PE} (k:Nat) (h:(hget okH k).isSome=true):(hget (swpH sd sn G) k).isSome=true:=by
 rcases yed h with e|e|e|e|e<;>subst e<;>rfl
theorem yjp: ∀{fr:Fr},fr.all (fun q=>s3 okH q.2)=true->(lft fr).all (fun q=>s3 okH q.2)=true
 |[],_=>rfl
 |(t,x)::fr,h=>by
  simp only [List.all_cons,Bool.and_eq_true] at h
  simp only [lft,List.all_cons,Bool.and_eq_true]
  exact ⟨h.1,yjp h.2⟩
theorem yna {ok:Hp} (hok: ∀k,(hget okH k).isSome=true->(hget ok k).isSome=true) {F A fr1:Fr} (hA: ∀q∈A,fget F q.1=q.2/\q.1<1000000/\s3 ok q.2=true) (hl: ∀t,1000000<=t->fget F t=fget (lft fr1) t) (hfr:fr1.all (fun q=>s3 okH q.2)=true) (t:Nat):fget (A++lft fr1) t= .any\/(fget (A++lft fr1) t=fget F t/\s3 ok (fget (A++lft fr1) t)=true):=by
 induction A with
 |nil=>
  rw [List.nil_append]
  rcases Nat.lt_or_ge t 1000000 with h|h
  ·left;rw [yb7,if_neg (by omega)]
  ·rcases yma (yjp hfr) t with g|g
   ·exact .inl g
   ·exact .inr ⟨(hl t h).symm,ycx hok _ g⟩
 |cons q A ih=>
  obtain ⟨s,x⟩:=q
  rw [List.cons_append]
  simp only [fget]
  split
  ·rename_i e;subst e
   have:=hA (s,x) (List.mem_cons_self ..)
   exact .inr ⟨this.1.symm,this.2.2⟩
  ·exact ih fun q hq=>hA q (List.mem_cons_of_mem _ hq)
theorem ymf {F A fr1:Fr} (hA: ∀q∈A,fget F q.1=q.2/\q.1<1000000/\s3 okH q.2=true) (hl: ∀t,1000000<=t->fget F t=fget (lft fr1) t) (hfr:fr1.all (fun q=>s3 okH q.2)=true) (t:Nat):fget (A++lft fr1) t= .any\/(fget (A++lft fr1) t=fget F t/\s3 okH (fget (A++lft fr1) t)=true):=yna (fun _ h=>h) hA hl hfr t
def okH6:Hp:=(1000006, .gone)::okH
theorem ysw (k:Nat) (h:(hget okH k).isSome=true):(hget okH6 k).isSome=true:=by
 rcases yed h with e|e|e|e|e<;>subst e<;>rfl
theorem yn4 {sd:List PE} {sn:List Nat} {G:List PE} (hG:G.length<=900000) {F fr':Fr} {o:AObj} {X:Hp} (ho:sO okH o=true) (hF: ∀t,fget fr' t= .any\/(fget fr' t=fget F t/\s3 okH6 (fget fr' t)=true)) (hX: ∀q∈X,1000005<=q.1):Wk F ((1000006,o)::(X++swpH sd sn G)) fr' ((1000006,o)::swpH sd sn G):=by
 have hm: ∀k,(hget okH6 k).isSome=true->(hget ((1000006,o)::swpH sd sn G) k).isSome=true:=fun k hk=>by
  simp only [okH6,hget] at hk
  split at hk
  ·rename_i e;subst e;rfl
  ·rename_i e
   rw [hget,if_neg e];exact yg9 k hk
 have hm0: ∀k,(hget (swpH sd sn G) k).isSome=true->(hget ((1000006,o)::swpH sd sn G) k).isSome=true:=fun k hk=>by
  rw [hget];split
  ·rfl
  ·exact hk
 have hX2: ∀(X:Hp) (i:Nat),(∀q∈X,1000005<=q.1)->i<1000005->hget (X++swpH sd sn G) i=hget (swpH sd sn G) i:=fun X i=>by
  induction X with
  |nil=>exact fun _ _=>rfl
  |cons q X ih=>
   obtain ⟨j,a⟩:=q
   intro h hi
   have:=h (j,a) (List.mem_cons_self ..)
   rw [List.cons_append,hget,if_neg (by simp only at this;omega),ih (fun q hq=>h q (List.mem_cons_of_mem _ hq)) hi]
 have hsO: ∀o',sO (swpH sd sn G) o'=true->sO ((1000006,o)::swpH sd sn G) o'=true:=fun o' h=>by
  cases o' with
  |gone=>exact h
  |cells t c=>
   cases c with
   |ints l=>rfl
   |bools l=>rfl
   |lst l=>exact List.all_eq_true.2 fun x hx=>ycx hm0 x (List.all_eq_true.1 h x hx)
  |gmap t ck l=>exact List.all_eq_true.2 fun x hx=>ycx hm0 _ (List.all_eq_true.1 h x hx)
  |iter mid s sn la=>exact hm0 _ h
  |imap t l=>exact List.all_eq_true.2 fun x hx=>ycx hm0 _ (List.all_eq_true.1 h x hx)
  |fmap t c=>rfl
 refine Wk.subG (fun t=>(hF t).imp id fun h=>⟨h.1,ycx hm _ h.2⟩) fun i o' h=>?_
 rw [hget] at h⊢
 split at h
 ·rename_i e;subst e
  cases h
  rw [if_pos rfl]
  refine ⟨rfl,?_⟩
  cases o with
  |gone=>rfl
  |cells t c=>
   cases c with
   |ints l=>rfl
   |bools l=>rfl
   |lst l=>exact List.all_eq_true.2 fun x hx=>ycx (fun k hk=>hm0 k (yg9 k hk)) x (List.all_eq_true.1 ho x hx)
  |gmap t ck l=>exact List.all_eq_true.2 fun x hx=>ycx (fun k hk=>hm0 k (yg9 k hk)) _ (List.all_eq_true.1 ho x hx)
  |iter mid s sn la=>exact hm0 _ (yg9 _ ho)
  |imap t l=>exact List.all_eq_true.2 fun x hx=>ycx (fun k hk=>hm0 k (yg9 k hk)) _ (List.all_eq_true.1 ho x hx)
  |fmap t c=>rfl
 ·rename_i e
  have hi:i<1000005:=by
   rcases Nat.lt_or_ge i 1000005 with h9|h9
   ·exact h9
   ·rw [yf6 hG h9] at h;cases h
  rw [if_neg e,hX2 X i hX hi]
  exact ⟨h,hsO o' (yp9 sd sn G i o' h)⟩
theorem yk8 {sd:List PE} {sn:List Nat} {G:List PE} {F fr':Fr} {H0:Hp} (hF: ∀t,fget fr' t= .any\/(fget fr' t=fget F t/\s3 okH (fget fr' t)=true)) (hH: ∀i o,hget (swpH sd sn G) i=some o->hget H0 i=some o):Wk F H0 fr' (swpH sd sn G):=
 Wk.subG (fun t=>(hF t).imp id fun h=>⟨h.1,ycx yg9 _ h.2⟩) fun i o h=>⟨hH i o h,yp9 sd sn G i o h⟩
theorem ywx (xs:List AV) (fr fr':Fr) (hx:xs.length<=1000) (hs:xs.all (s3 okH)=true) (h: ∀t,fget fr' t= .any\/(fget fr' t=fget fr t/\s3 okH (fget fr' t)=true)): ∀t,fget (frOf 0 xs++lft fr') t= .any\/(fget (frOf 0 xs++lft fr') t=fget (frOf 0 xs++lft fr) t/\s3 okH (fget (frOf 0 xs++lft fr') t)=true):=by
 have key: ∀(xs:List AV) (k:Nat),xs.all (s3 okH)=true-> ∀t,fget (frOf k xs++lft fr') t= .any\/(fget (frOf k xs++lft fr') t=fget (frOf k xs++lft fr) t/\s3 okH (fget (frOf k xs++lft fr') t)=true):=by
  intro xs
  induction xs with
  |nil=>
   intro k _ t
   simp only [frOf,List.nil_append,yb7]
   split
   ·exact h _
   ·exact .inl rfl
  |cons x xs ih=>
   intro k hs t
   simp only [List.all_cons,Bool.and_eq_true] at hs
   simp only [frOf,List.cons_append,fget]
   split
   ·exact .inr ⟨rfl,hs.1⟩
   ·exact ih (k+1) hs.2 t
 exact key xs 0 hs
theorem yk9 {sd:List PE} {sn:List Nat} {G:List PE} {xs:List AV} {fr fr':Fr} {H0:Hp} (hx:xs.length<=1000) (hs:xs.all (s3 okH)=true) (h: ∀t,fget fr' t= .any\/(fget fr' t=fget fr t/\s3 okH (fget fr' t)=true)) (hH: ∀i o,hget (swpH sd sn G) i=some o->hget H0 i=some o):Wk (frOf 0 xs++lft fr) H0 (frOf 0 xs++lft fr') (swpH sd sn G):=
 yk8 (ywx xs fr fr' hx hs h) hH
theorem yzq {sd:List PE} {sn:List Nat} {G:List PE} (hG:G.length<=900000) {F A fr1:Fr} {o1 o2:AObj} (hfr:fr1.all (fun q=>s3 okH q.2)=true) (hq1:ycz [(1000005,o1),(1000006,o2)] o1) (hq2:ycz [(1000005,o1),(1000006,o2)] o2) (h1:ycy [(1000005,o1),(1000006,o2)] F)
  (hA: ∀q∈A,frzV [(1000005,o1),(1000006,o2)] 4 (fget F q.1)=q.2/\q.1<1000000/\s3 okH q.2=true) (hl: ∀t,1000000<=t->fget F t=fget (lft fr1) t):Wk F ((1000006,o2)::(1000005,o1)::swpH sd sn G) (A++lft fr1) (swpH sd sn G):=by
 have hHF: ∀k,k<1000005->hget [(1000005,o1),(1000006,o2)] k=none:=fun k hk=>by
  simp only [hget]
  rw [if_neg (by omega),if_neg (by omega)]
 have e1:=ym9 (yww hHF) hfr
 have e2:=y3k hHF sd sn G hG
 have h2:yca [(1000005,o1),(1000006,o2)] ((1000006,o2)::(1000005,o1)::swpH sd sn G):=by
  simp only [yca] at e2⊢
  exact ⟨hq2,hq1,by rw [e2.1];trivial⟩
 refine (Wk.frz (H:=(1000006,o2)::(1000005,o1)::swpH sd sn G) [1000005,1000006] h1 h2 rfl rfl).trans ?_
 change Wk (frzF [(1000005,o1),(1000006,o2)] F) (frzH [(1000005,o1),(1000006,o2)] ((1000006,o2)::(1000005,o1)::swpH sd sn G)) _ _
 refine yk8 (ymf (fun q hq=>?_) (fun t ht=>?_) hfr) fun i o hi=>?_
 ·have:=hA q hq
  rw [yeu]
  exact this
 ·rw [yeu,hl t ht,←yeu,e1.2]
 ·rw [frzH,frzH,e2.2]
  have hne: ∀k,1000005<=k->k≠i:=fun k hk e=>by subst e;rw [yf6 hG hk] at hi;cases hi
  simp only [hget]
  rw [if_neg (hne _ (by omega)),if_neg (hne _ (by omega))]
  exact hi
abbrev expA (m ends:List Int) (c:Nat):AV:= .agg [I ends.length,roI (gluL m ends c),roI (idxL m ends c),roI (endL m ends c)]
def exI (m:List Int) (c sp:Nat) (ends:List Int) (G:List PE) (g:PE):Nat->List PE
 |0=>G
 |1=>updE G (pS (nxT m ends c (dK g.key) false)) (g.lo+1-2*((ccN m ends c (dK g.key) false-sp:Nat):Int)) (tsL (ccN m ends c (dK g.key) false-sp) g.cs)
 |_=>exG m c sp ends G g
section
variable {m:List Int} {n:Nat} {P:List Nat} {ends:List Int} {c:Nat} (hp:PmOk m n) (he:yda m n P ends) (hc:c<n) (hcP:c∉P) (hw:ends.length<=90) (hw2:(endL m ends c).length<=90)
include hp he hc hcP hw hw2
theorem yri (sd:List PE) (sn:List Nat) (G:List PE) (g:PE) (sp:Nat) (hsp:sp<=1) {par R:Int} (hk:g.key=pS (dK g.key)/\ybp (dK g.key) ends.length) (hpr:(g.lo-par)% 2=0) (hrg: -R<=g.lo/\g.lo+2*(g.cs.length:Int)<=R) (h0:0<g.cs.length) (hR:R<=90000)
  (hG:GOk (endL m ends c).length (par+1) (R+200) G) (hGl:G.length<800000) (hGm: ∀x∈G,mxN x.cs<=1125899906842624) (hm0: ∀b,2^ccN m ends c (dK g.key) b*mxN g.cs<=1125899906842624) {fr fr1:Fr} {H0:Hp} {K:AV->Fr->Hp->Prop} (hfr:fr1.all (fun q=>s3 okH q.2)=true)
  (hw0:Wk (frOf 0 [expA m ends c, .str g.key,tpA g.lo g.cs,I sp, .fn 26 [.ptr 1000003 0]]++lft fr) H0 (frOf 0 [expA m ends c, .str g.key,tpA g.lo g.cs,I sp, .fn 26 [.ptr 1000003 0]]++lft fr1) (swpH sd sn G))
  (hK:K (.tup []) fr1 (swpH sd sn (exG m c sp ends G g))):
  ybi Tryd.prog 28 [expA m ends c, .str g.key,tpA g.lo g.cs,I sp, .fn 26 [.ptr 1000003 0]] fr H0 K:=by
 have hnw:max 1000001 (hnew (rwE 0 G))=1000001:=by have:=ych G 0;omega
 refine ybi.intro [] Tryd.func28 rfl rfl (by decide) (by simp [Tryd.ntmps28]) ?_;rw [Tryd.ntmps28]
 refine WpA.wk hw0 ?_
 have fit0:GFit G:=⟨hG.nd,by omega,fun x hx=>by have:=hG.rg x hx;omega,fun x hx=>by have:=hGm x hx;omega⟩
 repeat' (first|omega|(try apply yaa);simp only [go_sem,sevalprocAttr,hnw]|apply yae<;>(intro h_;(try simp only [h_]);revert h_)|apply yad|apply yab|apply gspI|apply And.intro|with_reducible intro h_|trivial|simp only [go_sem,la2];omega)
 refine SpL.build4 (a:=1) (b:=0) (c:=3) (d:=2) (e:=3) rfl rfl (by simp only [go_sem,sevalprocAttr]) (by simp only [go_sem,sevalprocAttr]) (by simp only [go_sem,sevalprocAttr]) rfl rfl rfl rfl ?_
 repeat' (first|omega|(try apply yaa);simp only [go_sem,sevalprocAttr,hnw]|apply yae<;>(intro h_;(try simp only [h_]);revert h_)|apply yad|apply yab|apply gspI|apply And.intro|with_reducible intro h_|trivial|simp only [go_sem,la2];omega)
 refine SpL.build4 (a:=3) (b:=2) (c:=1) (d:=0) (e:=3) rfl rfl (by simp only [go_sem,sevalprocAttr]) (by simp only [go_sem,sevalprocAttr]) (by simp only [go_sem,sevalprocAttr]) rfl rfl rfl rfl ?_
 repeat' (first|omega|(try apply yaa);simp only [go_sem,sevalprocAttr,hnw]|apply yae<;>(intro h_;(try simp only [h_]);revert h_)|apply yad|apply yab|apply gspI|apply And.intro|with_reducible intro h_|trivial|simp only [go_sem,la2];omega)
 refine SpL.build8 (a:=1) (b:=0) (c:=3) (d:=2) (a':=3) (b':=2) (c':=1) (d':=0) (e:=88) rfl rfl (by simp only [go_sem,sevalprocAttr]) (by simp only [go_sem,sevalprocAttr]) (by simp only [go_sem,sevalprocAttr]) rfl rfl ?_
 repeat' (first|omega|(try apply yaa);simp only [go_sem,sevalprocAttr,hnw]|apply yae<;>(intro h_;(try simp only [h_]);revert h_)|apply yad|apply yab|apply gspI|apply And.intro|with_reducible intro h_|trivial|simp only [go_sem,la2];omega)
 refine yak.intro (fun n' fr' H=> ∃i:Nat,i<=2/\n'=2-i/\fr'=[(18,I i),(17, .agg [I 1,I 0,I 3,I 2,I 3,I 2,I 1,I 0]),(7, .rp (.lst [I g.lo,roI g.cs]) 0),(5, .rp (.lst [I ends.length,roI (gluL m ends c),roI (idxL m ends c),roI (endL m ends c)]) 0),(1, .str g.key),(3,I sp),(4, .fn 26 [.ptr 1000003 0])]++lft fr1/\
  H=swpH sd sn (exI m c sp ends G g i)) ?_ ?_
 ·refine ⟨_,_,_,yzq (by omega) hfr ?_ ?_ ?_ ?_ (fun t ht=>?_),0,by omega,rfl,rfl,rfl⟩
  ·simp only [go_sem,sevalprocAttr,List.forall_mem_cons]
  ·simp only [go_sem,sevalprocAttr,List.forall_mem_cons]
  ·have hHF: ∀(o1 o2:AObj) (k:Nat),k<1000005->hget [(1000005,o1),(1000006,o2)] k=none:=fun o1 o2 k hk=>by
    simp only [hget]
    rw [if_neg (by omega),if_neg (by omega)]
   have hl:=fun o1 o2=>(ym9 (yww (hHF o1 o2)) hfr).1
   simp only [go_sem,sevalprocAttr,hl,ycy,frzP]
  ·simp only [go_sem,sevalprocAttr,List.forall_mem_cons,frzV,okH,Option.isSome_some]
  ·simp only [fget]
   repeat rw [if_neg (by omega)]
 rintro n' fr' H ⟨i,hi,rfl,rfl,rfl⟩
 obtain rfl|rfl|rfl:i=0\/i=1\/i=2:=by omega
 ·obtain ⟨G1,hG1⟩: ∃G1,exI m c sp ends G g 0=G1:=⟨_,rfl⟩
  have hfit:GFit G1:=by rw [←hG1];exact fit0
  have hpar: ∀x∈G1,(x.lo-(par+1))% 2=0:=by rw [←hG1];exact hG.pr
  have hG1l:G1.length<=900000:=by have:=hfit.len;omega
  have hnw1:max 1000001 (hnew (rwE 0 G1))=1000001:=by have:=ych G1 0;omega
  rw [hG1]
  have bi:decide (((0:Nat):Int)<2)=true:=by decide
  have hfo:=ymd hp he hk.2 hc hcP hw false
  rw [←hk.1] at hfo
  have hcc:=yg3 m ends c (dK g.key) false
  have hmb:=hm0 false
  have hq:=(yb2 hp he hk.2 hc hcP (fun _=>false)).1
  have hlen:=hq.len
  obtain ⟨cc,hccd⟩: ∃cc,ccN m ends c (dK g.key) false=cc:=⟨_,rfl⟩
  rw [hccd] at hfo hcc hmb
  repeat' (first|omega|(try apply yaa);simp only [go_sem,sevalprocAttr,bi,hnw1]|apply yae<;>(intro h_;(try simp only [h_]);revert h_)|apply yad|apply yab|apply gspI|apply And.intro|with_reducible intro h_|trivial|simp only [go_sem,la2];omega)
  refine ⟨yaf.fn rfl hfo ?_⟩
  repeat' (first|omega|(try apply yaa);simp only [go_sem,sevalprocAttr,bi,hnw1]|apply yae<;>(intro h_;(try simp only [h_]);revert h_)|apply yad|apply yab|apply gspI|apply And.intro|with_reducible intro h_|trivial|simp only [go_sem,la2];omega)
  refine yak.intro (fun n' fr' H=> ∃(j:Nat) (lo1:Int),j<=cc-sp/\lo1=(g.lo+1)-2*(j:Int)/\n'=cc-sp-j/\fr'=[(41,I j),(40,I ((cc:Int)-sp)),(14, .ptr 1000006 0),(12, .str (pS (nxT m ends c (dK g.key) false))),(18,I ((0:Nat):Int)),(17, .agg [I 1,I 0,I 3,I 2,I 3,I 2,I 1,I 0]),(7, .rp (.lst [I g.lo,roI g.cs]) 0),(5, .rp (.lst [I ends.length,roI (gluL m ends c),roI (idxL m ends c),roI (endL m ends c)]) 0),(1, .str g.key),(3,I sp),(4, .fn 26 [.ptr 1000003 0])]++lft fr1/\
   H=(1000006, .cells 65 (.lst [I lo1,roI (tsL j g.cs)]))::swpH sd sn G1) ?_ ?_
  ·refine ⟨_,_,_,?_,0,g.lo+1,by omega,?_,rfl,rfl,rfl⟩
   ·refine yn4 (X:=[(1000005,_)]) (by omega) ?_ (yna ysw ?_ (fun t ht=>?_) hfr) ?_
    ·simp only [go_sem,sevalprocAttr]
    ·simp only [go_sem,sevalprocAttr,List.forall_mem_cons,okH6,okH,Option.isSome_some]
    ·simp only [fget]
     repeat rw [if_neg (by omega)]
    ·simp only [go_sem,sevalprocAttr,List.forall_mem_cons]
   ·omega
  rintro n' fr' H ⟨j,lo1,hj,hlo1,rfl,rfl,rfl⟩
  by_cases hjc:j<cc-sp
  ·have bj:decide ((j:Int)<(cc:Int)-sp)=true:=by rw [decide_eq_true_eq];omega
   have hti:=ypi lo1 (tsL j g.cs) (by omega) (by rw [ybg];omega) (yg8 (by
    have h1:=ye1 g.cs j
    have h2:2^j*mxN g.cs<=2^cc*mxN g.cs:=Nat.mul_le_mul_right _ (Nat.pow_le_pow_right (by omega) (by omega))
    omega))
   repeat' (first|omega|(try apply yaa);simp only [go_sem,sevalprocAttr,bj]|apply yae<;>(intro h_;(try simp only [h_]);revert h_)|apply yad|apply yab|apply gspI|apply And.intro|with_reducible intro h_|trivial|simp only [go_sem,la2];omega)
   refine ⟨yaf.fn rfl hti ?_⟩
   repeat' (first|omega|(try apply yaa);simp only [go_sem,sevalprocAttr,bj]|apply yae<;>(intro h_;(try simp only [h_]);revert h_)|apply yad|apply yab|apply gspI|apply And.intro|with_reducible intro h_|trivial|simp only [go_sem,la2];omega)
   refine ⟨_,_,_,?_,Wk.frm (A:=[(41,I ((j+1:Nat):Int)),(40,I ((cc:Int)-sp)),(14, .ptr 1000006 0),(12, .str (pS (nxT m ends c (dK g.key) false))),(18,I ((0:Nat):Int)),(17, .agg [I 1,I 0,I 3,I 2,I 3,I 2,I 1,I 0]),(7, .rp (.lst [I g.lo,roI g.cs]) 0),(5, .rp (.lst [I ends.length,roI (gluL m ends c),roI (idxL m ends c),roI (endL m ends c)]) 0),(1, .str g.key),(3,I sp),(4, .fn 26 [.ptr 1000003 0])]) ?_ (fun t ht=>?_),j+1,lo1-2,by omega,by omega,rfl,rfl,rfl⟩
   ·omega
   ·simp only [go_sem,sevalprocAttr,List.forall_mem_cons]
   ·simp only [fget]
    repeat rw [if_neg (by omega)]
  ·obtain rfl:j=cc-sp:=by omega
   have hlo2:lo1=(g.lo+1)-2*((cc-sp:Nat):Int):=hlo1
   have bj:decide (((cc-sp:Nat):Int)<(cc:Int)-sp)=false:=by rw [decide_eq_false_iff_not];omega
   repeat' (first|omega|(try apply yaa);simp only [go_sem,sevalprocAttr,bj]|apply yae<;>(intro h_;(try simp only [h_]);revert h_)|apply yad|apply yab|apply gspI|apply And.intro|with_reducible intro h_|trivial|simp only [go_sem,la2];omega)
   refine ⟨yaf.inline (yke (fr1:=[(18,I ((0:Nat):Int)),(17, .agg [I 1,I 0,I 3,I 2,I 3,I 2,I 1,I 0]),(7, .rp (.lst [I g.lo,roI g.cs]) 0),(5, .rp (.lst [I ends.length,roI (gluL m ends c),roI (idxL m ends c),roI (endL m ends c)]) 0),(1, .str g.key),(3,I sp),(4, .fn 26 [.ptr 1000003 0])]++lft fr1) sd sn G1 (pS (nxT m ends c (dK g.key) false)) lo1 (tsL (cc-sp) g.cs) hfit (fun x hx _=>by have:=hpar x hx;omega) (by rw [ybg];omega) ?_ (by rw [ybg];omega) ?_ (yk9 (by simp) ?_ (ymf ?_ (fun t ht=>?_) hfr) ?_) ?_)⟩
   ·have h1:=ye1 g.cs (cc-sp)
    have h2:2^(cc-sp)*mxN g.cs<=2^cc*mxN g.cs:=Nat.mul_le_mul_right _ (Nat.pow_le_pow_right (by omega) (by omega))
    omega
   ·rw [List.all_append,yjp hfr];rfl
   ·rfl
   ·simp only [go_sem,sevalprocAttr,List.forall_mem_cons,okH,Option.isSome_some]
   ·simp only [fget]
    repeat rw [if_neg (by omega)]
   ·intro i o hio
    rw [hget,if_neg fun e=>by subst e;rw [yf6 hG1l (by omega)] at hio;cases hio]
    exact hio
   ·have hup:updE G1 (pS (nxT m ends c (dK g.key) false)) lo1 (tsL (cc-sp) g.cs)=exI m c sp ends G g 1:=by
     rw [hlo2,←hG1,←hccd];rfl
    rw [hup]
    repeat' (first|omega|(try apply yaa);simp only [go_sem,sevalprocAttr,bj]|apply yae<;>(intro h_;(try simp only [h_]);revert h_)|apply yad|apply yab|apply gspI|apply And.intro|with_reducible intro h_|trivial|simp only [go_sem,la2];omega)
    refine ⟨_,_,_,?_,Wk.frm (A:=[(18,I ((1:Nat):Int)),(17, .agg [I 1,I 0,I 3,I 2,I 3,I 2,I 1,I 0]),(7, .rp (.lst [I g.lo,roI g.cs]) 0),(5, .rp (.lst [I ends.length,roI (gluL m ends c),roI (idxL m ends c),roI (endL m ends c)]) 0),(1, .str g.key),(3,I sp),(4, .fn 26 [.ptr 1000003 0])]) ?_ (fun t ht=>?_),1,by omega,rfl,rfl,rfl⟩
    ·omega
    ·(simp only [go_sem,sevalprocAttr,List.forall_mem_cons])<;>rfl
    ·simp only [fget]
     repeat rw [if_neg (by omega)]
 ·obtain ⟨G1,hG1⟩: ∃G1,exI m c sp ends G g 1=G1:=⟨_,rfl⟩
  have hq0:=(yb2 hp he hk.2 hc hcP (fun _=>false)).1
  have hcc0:=yg3 m ends c (dK g.key) false
  have hmb0:=hm0 false
  have ht0:=ye1 g.cs (ccN m ends c (dK g.key) false-sp)
  have hpw0:2^(ccN m ends c (dK g.key) false-sp)*mxN g.cs<=2^ccN m ends c (dK g.key) false*mxN g.cs:=Nat.mul_le_mul_right _ (Nat.pow_le_pow_right (by omega) (by omega))
  have hok1:GOk (endL m ends c).length (par+1) (R+200) (exI m c sp ends G g 1):=hG.upd (by omega) hq0 (by omega) (by rw [ybg];omega) (by rw [ybg];omega)
  have hfit:GFit G1:=by
   rw [←hG1]
   refine ⟨hok1.nd,by have:=(yk4 G (pS (nxT m ends c (dK g.key) false)) (g.lo+1-2*((ccN m ends c (dK g.key) false-sp:Nat):Int)) (tsL (ccN m ends c (dK g.key) false-sp) g.cs)).1;simp only [exI];omega,fun x hx=>by have:=hok1.rg x hx;omega,fun x hx=>?_⟩
   rcases yeh G hx with hx|rfl|⟨y,hy,_,rfl⟩
   ·have:=hGm x hx;omega
   ·dsimp only;omega
   ·have h1:=hGm y hy
    have h2:=yqp y (g.lo+1-2*((ccN m ends c (dK g.key) false-sp:Nat):Int)) (tsL (ccN m ends c (dK g.key) false-sp) g.cs)
    omega
  have hpar: ∀x∈G1,(x.lo-(par+1))% 2=0:=by rw [←hG1];exact hok1.pr
  have hG1l:G1.length<=900000:=by have:=hfit.len;omega
  have hnw1:max 1000001 (hnew (rwE 0 G1))=1000001:=by have:=ych G1 0;omega
  rw [hG1]
  have bi:decide (((1:Nat):Int)<2)=true:=by decide
  have hfo:=ymd hp he hk.2 hc hcP hw true
  rw [←hk.1] at hfo
  have hcc:=yg3 m ends c (dK g.key) true
  have hmb:=hm0 true
  have hq:=(yb2 hp he hk.2 hc hcP (fun _=>true)).1
  have hlen:=hq.len
  obtain ⟨cc,hccd⟩: ∃cc,ccN m ends c (dK g.key) true=cc:=⟨_,rfl⟩
  rw [hccd] at hfo hcc hmb
  repeat' (first|omega|(try apply yaa);simp only [go_sem,sevalprocAttr,bi,hnw1]|apply yae<;>(intro h_;(try simp only [h_]);revert h_)|apply yad|apply yab|apply gspI|apply And.intro|with_reducible intro h_|trivial|simp only [go_sem,la2];omega)
  refine ⟨yaf.fn rfl hfo ?_⟩
  repeat' (first|omega|(try apply yaa);simp only [go_sem,sevalprocAttr,bi,hnw1]|apply yae<;>(intro h_;(try simp only [h_]);revert h_)|apply yad|apply yab|apply gspI|apply And.intro|with_reducible intro h_|trivial|simp only [go_sem,la2];omega)
  refine yak.intro (fun n' fr' H=> ∃(j:Nat) (lo1:Int),j<=cc-sp/\lo1=(g.lo-1)-2*(j:Int)/\n'=cc-sp-j/\fr'=[(41,I j),(40,I ((cc:Int)-sp)),(14, .ptr 1000006 0),(12, .str (pS (nxT m ends c (dK g.key) true))),(18,I ((1:Nat):Int)),(17, .agg [I 1,I 0,I 3,I 2,I 3,I 2,I 1,I 0]),(7, .rp (.lst [I g.lo,roI g.cs]) 0),(5, .rp (.lst [I ends.length,roI (gluL m ends c),roI (idxL m ends c),roI (endL m ends c)]) 0),(1, .str g.key),(3,I sp),(4, .fn 26 [.ptr 1000003 0])]++lft fr1/\
   H=(1000006, .cells 65 (.lst [I lo1,roI (tsL j g.cs)]))::swpH sd sn G1) ?_ ?_
  ·refine ⟨_,_,_,?_,0,g.lo+1-2,by omega,?_,rfl,rfl,rfl⟩
   ·refine yn4 (X:=[(1000005,_)]) (by omega) ?_ (yna ysw ?_ (fun t ht=>?_) hfr) ?_
    ·simp only [go_sem,sevalprocAttr]
    ·simp only [go_sem,sevalprocAttr,List.forall_mem_cons,okH6,okH,Option.isSome_some]
    ·simp only [fget]
     repeat rw [if_neg (by omega)]
    ·simp only [go_sem,sevalprocAttr,List.forall_mem_cons]
   ·omega
  rintro n' fr' H ⟨j,lo1,hj,hlo1,rfl,rfl,rfl⟩
  by_cases hjc:j<cc-sp
  ·have bj:decide ((j:Int)<(cc:Int)-sp)=true:=by rw [decide_eq_true_eq];omega
   have hti:=ypi lo1 (tsL j g.cs) (by omega) (by rw [ybg];omega) (yg8 (by
    have h1:=ye1 g.cs j
    have h2:2^j*mxN g.cs<=2^cc*mxN g.cs:=Nat.mul_le_mul_right _ (Nat.pow_le_pow_right (by omega) (by omega))
    omega))
   repeat' (first|omega|(try apply yaa);simp only [go_sem,sevalprocAttr,bj]|apply yae<;>(intro h_;(try simp only [h_]);revert h_)|apply yad|apply yab|apply gspI|apply And.intro|with_reducible intro h_|trivial|simp only [go_sem,la2];omega)
   refine ⟨yaf.fn rfl hti ?_⟩
   repeat' (first|omega|(try apply yaa);simp only [go_sem,sevalprocAttr,bj]|apply yae<;>(intro h_;(try simp only [h_]);revert h_)|apply yad|apply yab|apply gspI|apply And.intro|with_reducible intro h_|trivial|simp only [go_sem,la2];omega)
   refine ⟨_,_,_,?_,Wk.frm (A:=[(41,I ((j+1:Nat):Int)),(40,I ((cc:Int)-sp)),(14, .ptr 1000006 0),(12, .str (pS (nxT m ends c (dK g.key) true))),(18,I ((1:Nat):Int)),(17, .agg [I 1,I 0,I 3,I 2,I 3,I 2,I 1,I 0]),(7, .rp (.lst [I g.lo,roI g.cs]) 0),(5, .rp (.lst [I ends.length,roI (gluL m ends c),roI (idxL m ends c),roI (endL m ends c)]) 0),(1, .str g.key),(3,I sp),(4, .fn 26 [.ptr 1000003 0])]) ?_ (fun t ht=>?_),j+1,lo1-2,by omega,by omega,rfl,rfl,rfl⟩
   ·omega
   ·simp only [go_sem,sevalprocAttr,List.forall_mem_cons]
   ·simp only [fget]
    repeat rw [if_neg (by omega)]
  ·obtain rfl:j=cc-sp:=by omega
   have hlo2:lo1=(g.lo-1)-2*((cc-sp:Nat):Int):=hlo1
   have bj:decide (((cc-sp:Nat):Int)<(cc:Int)-sp)=false:=by rw [decide_eq_false_iff_not];omega
   repeat' (first|omega|(try apply yaa);simp only [go_sem,sevalprocAttr,bj]|apply yae<;>(intro h_;(try simp only [h_]);revert h_)|apply yad|apply yab|apply gspI|apply And.intro|with_reducible intro h_|trivial|simp only [go_sem,la2];omega)
   refine ⟨yaf.inline (yke (fr1:=[(18,I ((1:Nat):Int)),(17, .agg [I 1,I 0,I 3,I 2,I 3,I 2,I 1,I 0]),(7, .rp (.lst [I g.lo,roI g.cs]) 0),(5, .rp (.lst [I ends.length,roI (gluL m ends c),roI (idxL m ends c),roI (endL m ends c)]) 0),(1, .str g.key),(3,I sp),(4, .fn 26 [.ptr 1000003 0])]++lft fr1) sd sn G1 (pS (nxT m ends c (dK g.key) true)) lo1 (tsL (cc-sp) g.cs) hfit (fun x hx _=>by have:=hpar x hx;omega) (by rw [ybg];omega) ?_ (by rw [ybg];omega) ?_ (yk9 (by simp) ?_ (ymf ?_ (fun t ht=>?_) hfr) ?_) ?_)⟩
   ·have h1:=ye1 g.cs (cc-sp)
    have h2:2^(cc-sp)*mxN g.cs<=2^cc*mxN g.cs:=Nat.mul_le_mul_right _ (Nat.pow_le_pow_right (by omega) (by omega))
    omega
   ·rw [List.all_append,yjp hfr];rfl
   ·rfl
   ·simp only [go_sem,sevalprocAttr,List.forall_mem_cons,okH,Option.isSome_some]
   ·simp only [fget]
    repeat rw [if_neg (by omega)]
   ·intro i o hio
    rw [hget,if_neg fun e=>by subst e;rw [yf6 hG1l (by omega)] at hio;cases hio]
    exact hio
   ·have hup:updE G1 (pS (nxT m ends c (dK g.key) true)) lo1 (tsL (cc-sp) g.cs)=exI m c sp ends G g 2:=by
     rw [hlo2,←hG1,←hccd];rfl
    rw [hup]
    repeat' (first|omega|(try apply yaa);simp only [go_sem,sevalprocAttr,bj]|apply yae<;>(intro h_;(try simp only [h_]);revert h_)|apply yad|apply yab|apply gspI|apply And.intro|with_reducible intro h_|trivial|simp only [go_sem,la2];omega)
    refine ⟨_,_,_,?_,Wk.frm (A:=[(18,I ((2:Nat):Int)),(17, .agg [I 1,I 0,I 3,I 2,I 3,I 2,I 1,I 0]),(7, .rp (.lst [I g.lo,roI g.cs]) 0),(5, .rp (.lst [I ends.length,roI (gluL m ends c),roI (idxL m ends c),roI (endL m ends c)]) 0),(1, .str g.key),(3,I sp),(4, .fn 26 [.ptr 1000003 0])]) ?_ (fun t ht=>?_),2,by omega,rfl,rfl,rfl⟩
    ·omega
    ·(simp only [go_sem,sevalprocAttr,List.forall_mem_cons])<;>rfl
    ·simp only [fget]
     repeat rw [if_neg (by omega)]
 ·have bi:decide (((2:Nat):Int)<2)=false:=by decide
  repeat' (first|omega|(try apply yaa);simp only [go_sem,sevalprocAttr,bi]|apply yae<;>(intro h_;(try simp only [h_]);revert h_)|apply yad|apply yab|apply gspI|apply And.intro|with_reducible intro h_|trivial|simp only [go_sem,la2];omega)
  all_goals exact hK
end
end Go.Proofs.YtmdjdekgakidhaaDoor
