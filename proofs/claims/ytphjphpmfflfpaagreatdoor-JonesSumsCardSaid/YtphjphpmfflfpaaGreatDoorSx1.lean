/- Layer 17: sweep's update in general; one state is expanded. -/
import Derived.Test.YtphjphpmfflfpaaGreatDoorZh
namespace Go.Proofs.YtphjphpmfflfpaaGreatDoor
open Go Go.RowKit
set_option maxRecDepth 100000
set_option maxHeartbeats 8000000
set_option linter.unusedVariables false
set_option linter.unusedSimpArgs false
structure w8 (G:List PE):Prop where
 nd:l5 G
 len:G.length<900000
 rg: ∀g∈G,-100000<=g.lo/\g.lo+2*(g.cs.length:Int)<=100000
 mx: ∀g∈G,mxN g.cs<=1152921504606846976
theorem Br {cs:List Int} (h:mxN cs<=1152921504606846976) (i:Nat): -1152921504606846976<=cs.getD i 0/\cs.getD i 0<=1152921504606846976:=by
 have:=xg cs i
 omega
theorem T0 (sd:List PE) (sn:List Nat) (G:List PE) (s:ByteArray) (lo:Int) (cs:List Int) (hG:w8 G) (hp: ∀g∈G,g.key=s->(g.lo-lo)% 2=0) (hr: -100000<=lo/\lo+2*(cs.length:Int)<=100000) (hm:mxN cs<=1152921504606846976) (h0:0<cs.length) {fr fr1:Fr} {H0:Hp} {K:AV->Fr->Hp->Prop} (dA:fr1.all (fun q=>s3 dF q.2)=true)
  (hw:Wk (frOf 0 [.str s,tpA lo cs, .ptr 1000003 0]++lft fr) H0 (frOf 0 [.str s,tpA lo cs, .ptr 1000003 0]++lft fr1) (br sd sn G))
  (hK:K (.tup []) fr1 (br sd sn (updE G s lo cs))):
  fM Tryz.prog 144 [.str s,tpA lo cs, .ptr 1000003 0] fr H0 K:=by
 by_cases hx: ∃g∈G,g.key=s
 ·obtain ⟨g,hg,rfl⟩:=hx;obtain ⟨j,cO,hj⟩:=List.mem_iff_getElem.1 hg;have fx:G[j]?=some g:=by rw [List.getElem?_eq_getElem cO,hj]
  have vn:=hG.rg g hg;have hpg:=hp g hg rfl;rw [S8 G hG.nd fx] at hK;obtain ⟨a,b,dU,h1,h2,h3⟩:=Jj (cs:=cs) hpg;rw [Jk a b _ dU h1 h2 h3 rfl] at hK;by_cases hf:a=0/\b+cs.length<=g.cs.length
  ·obtain ⟨rfl,hb⟩:=hf;have e1:g.lo=dU:=by omega
   have e2:max (0+g.cs.length) (b+cs.length)=g.cs.length:=by omega
   rw [e2,y5j,←e1] at hK;rw [←e1] at h2;subst h2;exact YG sd sn G j b g cs (by have:=hG.len;omega) hG.nd fx hb (by omega) (by omega) (Br (hG.mx g hg)) (Br hm) dA hw hK
  ·exact YN sd sn G j a b _ dU g lo cs (by have:=hG.len;omega) hG.nd fx h1 h2 h3 (by omega) (by omega) (by omega) (by omega) (by omega) (by omega) (Br (hG.mx g hg)) (Br hm) dA hw hK
 ·have cD: ∀g∈G,g.key≠s:=fun g hg e=>hx ⟨g,hg,e⟩;rw [S9 G cD] at hK;exact YF sd sn G s lo cs hG.len hG.nd cD (by omega) h0 dA hw hK
section
variable {ok HF:Hp} (h: ∀k,(hget ok k).isSome=true->hget HF k=none)
include h
theorem BS (n:Nat): ∀(x:AV),s1 ok x=true->bg HF (n+1) x=x/\bx HF (n+1) x
 | .ptr k o,h1=>by simp only [bg,bx,h k h1];exact ⟨trivial,trivial⟩
 | .sl e k o l,h1=>by simp only [bg,bx,h k h1];exact ⟨trivial,trivial⟩
 | .mp k,h1=>⟨rfl,trivial⟩
 | .agg _,h1=>by cases h1
 | .tup _,h1=>by cases h1
 | .fn _ _,h1=>by cases h1
 | .any,_=>⟨rfl,trivial⟩
 | .int _ _,_=>⟨rfl,trivial⟩
 | .bool _,_=>⟨rfl,trivial⟩
 | .str _,_=>⟨rfl,trivial⟩
 | .nils,_=>⟨rfl,trivial⟩
 | .ro _ _ _,_=>⟨rfl,trivial⟩
 | .rp _ _,_=>⟨rfl,trivial⟩
omit h in
theorem CJ {n:Nat} {xs:List AV} (h: ∀x∈xs,bg HF n x=x/\bx HF n x):xs.map (bg HF n)=xs/\ ∀x∈xs,bx HF n x:=by
 refine ⟨?_,fun x hx=>(h x hx).2⟩
 conv=>rhs;rw [←List.map_id xs]
 exact List.map_congr_left fun x hx=>(h x hx).1
theorem KL (n:Nat): ∀(x:AV),s2 ok x=true->bg HF (n+2) x=x/\bx HF (n+2) x
 | .agg xs,h1=>by have:=CJ (n:=n+1) fun y hy=>BS h n y (List.all_eq_true.1 h1 y hy);exact ⟨congrArg AV.agg this.1,this.2⟩
 | .tup _,h1=>by cases h1
 | .fn f xs,h1=>by have:=CJ (n:=n+1) fun y hy=>BS h n y (List.all_eq_true.1 h1 y hy);exact ⟨congrArg (AV.fn f) this.1,this.2⟩
 | .ptr k o,h1=>BS h (n+1) (.ptr k o) h1
 | .sl e k o l,h1=>BS h (n+1) (.sl e k o l) h1
 | .mp k,_=>⟨rfl,trivial⟩
 | .any,_=>⟨rfl,trivial⟩
 | .int _ _,_=>⟨rfl,trivial⟩
 | .bool _,_=>⟨rfl,trivial⟩
 | .str _,_=>⟨rfl,trivial⟩
 | .nils,_=>⟨rfl,trivial⟩
 | .ro _ _ _,_=>⟨rfl,trivial⟩
 | .rp _ _,_=>⟨rfl,trivial⟩
theorem Ss (n:Nat): ∀(x:AV),s3 ok x=true->bg HF (n+3) x=x/\bx HF (n+3) x
 | .agg xs,h1=>by have:=CJ (n:=n+2) fun y hy=>KL h n y (List.all_eq_true.1 h1 y hy);exact ⟨congrArg AV.agg this.1,this.2⟩
 | .tup xs,h1=>by have:=CJ (n:=n+2) fun y hy=>KL h n y (List.all_eq_true.1 h1 y hy);exact ⟨congrArg AV.tup this.1,this.2⟩
 | .fn f xs,h1=>by have:=CJ (n:=n+2) fun y hy=>KL h n y (List.all_eq_true.1 h1 y hy);exact ⟨congrArg (AV.fn f) this.1,this.2⟩
 | .ptr k o,h1=>BS h (n+2) (.ptr k o) h1
 | .sl e k o l,h1=>BS h (n+2) (.sl e k o l) h1
 | .mp k,_=>⟨rfl,trivial⟩
 | .any,_=>⟨rfl,trivial⟩
 | .int _ _,_=>⟨rfl,trivial⟩
 | .bool _,_=>⟨rfl,trivial⟩
 | .str _,_=>⟨rfl,trivial⟩
 | .nils,_=>⟨rfl,trivial⟩
 | .ro _ _ _,_=>⟨rfl,trivial⟩
 | .rp _ _,_=>⟨rfl,trivial⟩
theorem J3: ∀{fr:Fr},fr.all (fun q=>s3 ok q.2)=true->yem HF (lft fr)=True/\frzF HF (lft fr)=lft fr
 |[],_=>⟨rfl,rfl⟩
 |(t,x)::fr,hf=>by
  simp only [List.all_cons,Bool.and_eq_true] at hf;have h1:=Ss h 1 x hf.1;have h2:=J3 hf.2;simp only [lft,yem,frzF,h2.1,h2.2];exact ⟨by simp [h1.2],by rw [h1.1]⟩
theorem Wm: ∀{fr:Fr},fr.all (fun q=>s3 ok q.2)=true->yem HF fr/\frzF HF fr=fr
 |[],_=>⟨trivial,rfl⟩
 |(t,x)::fr,hf=>by
  simp only [List.all_cons,Bool.and_eq_true] at hf;have h1:=Ss h 1 x hf.1;have h2:=Wm hf.2;simp only [yem,frzF,h2.2];exact ⟨⟨h1.2,h2.1⟩,by rw [h1.1]⟩
end
theorem U9 {HF:Hp} (h: ∀k,k<1000005->hget HF k=none) (k:Nat) (hk:(hget dF k).isSome=true):hget HF k=none:=h k (by have:=BH hk;omega)
section
variable {HF:Hp} (h: ∀k,k<1000005->hget HF k=none)
include h
theorem Wl: ∀(G:List PE) (i:Nat),i+G.length<=900000->ydp HF (eX i G)=True/\c9 HF (eX i G)=eX i G
 |[],_,_=>⟨rfl,rfl⟩
 |g::G,i,hl=>by
  simp only [List.length_cons] at hl
  have:=Wl G (i+1) (by omega)
  simp only [eX,ydp,qp,c9,frzO,h (i+10) (by omega),this.1,this.2,and_self]
theorem N1 (sd:List PE) (sn:List Nat) (G:List PE) (hl:G.length<=900000):ydp HF (br sd sn G)=True/\c9 HF (br sd sn G)=br sd sn G:=by
 have h1:=Wl h G 0 (by omega);have hv: ∀k lo n,0<=k->k<0+G.length->bg HF 4 (.agg [I lo, .sl 1 (k+10) 0 n])= .agg [I lo, .sl 1 (k+10) 0 n]:=fun k lo n _ hk=>by
  simp only [bg,List.map_cons,List.map_nil,h (k+10) (by omega)]
 have hD:(fk 0 sd).map (fun q=>(q.1,q.2.1,bg HF 4 q.2.2))=fk 0 sd:=by
  conv=>rhs;rw [←List.map_id (fk 0 sd)]
  exact List.map_congr_left fun q hq=>by obtain ⟨k,g,_,rfl⟩:=qu _ _ _ hq;rfl
 constructor
 ·simp only [ydp,qp,h1.1,and_true,true_and,eq_iff_iff,iff_true];refine ⟨fun x hx=>?_,fun q hq=>?_,fun q hq=>?_,fun x hx=>?_⟩
  ·simp only [List.mem_cons,List.not_mem_nil,or_false] at hx;subst hx;trivial
  ·obtain ⟨k,g,hk,rfl⟩:=GG _ _ _ hq;have bN:=(List.getElem?_eq_some_iff.1 hk).1;simp only [bx,List.forall_mem_cons,h (0+k+10) (by omega)];exact ⟨trivial,trivial,by simp⟩
  ·obtain ⟨k,g,hk,rfl⟩:=qu _ _ _ hq;simp only [bx,List.forall_mem_cons];exact ⟨trivial,trivial,by simp⟩
  ·simp only [List.mem_cons,List.not_mem_nil,or_false] at hx;rcases hx with rfl|rfl<;>trivial
 ·simp only [c9,frzO,h 1000004 (by omega),h 1000003 (by omega),h 1000002 (by omega),h 2 (by omega),h 1 (by omega),h 1000000 (by omega),h1.2,GH G 0 hv,hD,List.map_cons,List.map_nil];rfl
end
theorem Dk {sd:List PE} {sn:List Nat} {G:List PE} (hl:G.length<=900000) {k:Nat} (hk:1000005<=k):hget (br sd sn G) k=none:=by
 simp only [hget]
 repeat rw [if_neg (by omega)]
 exact Sj (.inr (by omega))
theorem Bg {sd:List PE} {sn:List Nat} {G:List PE} (k:Nat) (h:(hget dF k).isSome=true):(hget (br sd sn G) k).isSome=true:=by
 rcases BH h with e|e|e|e|e<;>subst e<;>rfl
theorem Gx: ∀{fr:Fr},fr.all (fun q=>s3 dF q.2)=true->(lft fr).all (fun q=>s3 dF q.2)=true
 |[],_=>rfl
 |(t,x)::fr,h=>by
  simp only [List.all_cons,Bool.and_eq_true] at h;simp only [lft,List.all_cons,Bool.and_eq_true];exact ⟨h.1,Gx h.2⟩
theorem J2 {ok:Hp} (cZ: ∀k,(hget dF k).isSome=true->(hget ok k).isSome=true) {F A fr1:Fr} (hA: ∀q∈A,fget F q.1=q.2/\q.1<1000000/\s3 ok q.2=true) (hl: ∀t,1000000<=t->fget F t=fget (lft fr1) t) (dA:fr1.all (fun q=>s3 dF q.2)=true) (t:Nat):fget (A++lft fr1) t= .any\/(fget (A++lft fr1) t=fget F t/\s3 ok (fget (A++lft fr1) t)=true):=by
 induction A with
 |nil=>
  rw [List.nil_append];rcases Nat.lt_or_ge t 1000000 with h|h
  ·left;rw [u4,if_neg (by omega)]
  ·rcases Gd (Gx dA) t with g|g
   ·exact .inl g
   ·exact .inr ⟨(hl t h).symm,uU cZ _ g⟩
 |cons q A ih=>
  obtain ⟨s,x⟩:=q;rw [List.cons_append];simp only [fget]
  split
  ·rename_i e;subst e
   have:=hA (s,x) (List.mem_cons_self ..)
   exact .inr ⟨this.1.symm,this.2.2⟩
  ·exact ih fun q hq=>hA q (List.mem_cons_of_mem _ hq)
theorem Gt {F A fr1:Fr} (hA: ∀q∈A,fget F q.1=q.2/\q.1<1000000/\s3 dF q.2=true) (hl: ∀t,1000000<=t->fget F t=fget (lft fr1) t) (dA:fr1.all (fun q=>s3 dF q.2)=true) (t:Nat):fget (A++lft fr1) t= .any\/(fget (A++lft fr1) t=fget F t/\s3 dF (fget (A++lft fr1) t)=true):=J2 (fun _ h=>h) hA hl dA t
def rF:Hp:=(1000006, .gone)::dF
theorem Wj (k:Nat) (h:(hget dF k).isSome=true):(hget rF k).isSome=true:=by
 rcases BH h with e|e|e|e|e<;>subst e<;>rfl
theorem S7 {sd:List PE} {sn:List Nat} {G:List PE} (hG:G.length<=900000) {F fr':Fr} {o:AObj} {X:Hp} (ho:sO dF o=true) (hF: ∀t,fget fr' t= .any\/(fget fr' t=fget F t/\s3 rF (fget fr' t)=true)) (hX: ∀q∈X,1000005<=q.1):Wk F ((1000006,o)::(X++br sd sn G)) fr' ((1000006,o)::br sd sn G):=by
 have hm: ∀k,(hget rF k).isSome=true->(hget ((1000006,o)::br sd sn G) k).isSome=true:=fun k hk=>by
  simp only [rF,hget] at hk
  split at hk
  ·rename_i e;subst e;rfl
  ·rename_i e
   rw [hget,if_neg e];exact Bg k hk
 have kB: ∀k,(hget (br sd sn G) k).isSome=true->(hget ((1000006,o)::br sd sn G) k).isSome=true:=fun k hk=>by
  rw [hget];split
  ·rfl
  ·exact hk
 have hX2: ∀(X:Hp) (i:Nat),(∀q∈X,1000005<=q.1)->i<1000005->hget (X++br sd sn G) i=hget (br sd sn G) i:=fun X i=>by
  induction X with
  |nil=>exact fun _ _=>rfl
  |cons q X ih=>
   obtain ⟨j,a⟩:=q;intro h hi
   have:=h (j,a) (List.mem_cons_self ..)
   rw [List.cons_append,hget,if_neg (by simp only at this;omega),ih (fun q hq=>h q (List.mem_cons_of_mem _ hq)) hi]
 have EE: ∀o',sO (br sd sn G) o'=true->sO ((1000006,o)::br sd sn G) o'=true:=fun o' h=>by
  cases o' with
  |gone=>exact h
  |cells t c=>
   cases c with
   |ints l=>rfl
   |bools l=>rfl
   |lst l=>exact List.all_eq_true.2 fun x hx=>uU kB x (List.all_eq_true.1 h x hx)
  |gmap t ck l=>exact List.all_eq_true.2 fun x hx=>uU kB _ (List.all_eq_true.1 h x hx)
  |iter mid s sn la=>exact kB _ h
  |imap t l=>exact List.all_eq_true.2 fun x hx=>uU kB _ (List.all_eq_true.1 h x hx)
  |fmap t c=>rfl
 refine Wk.vY (fun t=>(hF t).imp id fun h=>⟨h.1,uU hm _ h.2⟩) fun i o' h=>?_;rw [hget] at h⊢
 split at h
 ·rename_i e;subst e
  cases h;rw [if_pos rfl];refine ⟨rfl,?_⟩;cases o with
  |gone=>rfl
  |cells t c=>
   cases c with
   |ints l=>rfl
   |bools l=>rfl
   |lst l=>exact List.all_eq_true.2 fun x hx=>uU (fun k hk=>kB k (Bg k hk)) x (List.all_eq_true.1 ho x hx)
  |gmap t ck l=>exact List.all_eq_true.2 fun x hx=>uU (fun k hk=>kB k (Bg k hk)) _ (List.all_eq_true.1 ho x hx)
  |iter mid s sn la=>exact kB _ (Bg _ ho)
  |imap t l=>exact List.all_eq_true.2 fun x hx=>uU (fun k hk=>kB k (Bg k hk)) _ (List.all_eq_true.1 ho x hx)
  |fmap t c=>rfl
 ·rename_i e
  have hi:i<1000005:=by
   rcases Nat.lt_or_ge i 1000005 with h9|h9
   ·exact h9
   ·rw [Dk hG h9] at h;cases h
  rw [if_neg e,hX2 X i hX hi];exact ⟨h,EE o' (Js sd sn G i o' h)⟩
theorem KJ {sd:List PE} {sn:List Nat} {G:List PE} {F fr':Fr} {H0:Hp} (hF: ∀t,fget fr' t= .any\/(fget fr' t=fget F t/\s3 dF (fget fr' t)=true)) (hH: ∀i o,hget (br sd sn G) i=some o->hget H0 i=some o):Wk F H0 fr' (br sd sn G):=
 Wk.vY (fun t=>(hF t).imp id fun h=>⟨h.1,uU Bg _ h.2⟩) fun i o h=>⟨hH i o h,Js sd sn G i o h⟩
theorem y5r (xs:List AV) (fr fr':Fr) (hx:xs.length<=1000) (hs:xs.all (s3 dF)=true) (h: ∀t,fget fr' t= .any\/(fget fr' t=fget fr t/\s3 dF (fget fr' t)=true)): ∀t,fget (frOf 0 xs++lft fr') t= .any\/(fget (frOf 0 xs++lft fr') t=fget (frOf 0 xs++lft fr) t/\s3 dF (fget (frOf 0 xs++lft fr') t)=true):=by
 have key: ∀(xs:List AV) (k:Nat),xs.all (s3 dF)=true-> ∀t,fget (frOf k xs++lft fr') t= .any\/(fget (frOf k xs++lft fr') t=fget (frOf k xs++lft fr) t/\s3 dF (fget (frOf k xs++lft fr') t)=true):=by
  intro xs
  induction xs with
  |nil=>
   intro k _ t;simp only [frOf,List.nil_append,u4]
   split
   ·exact h _
   ·exact .inl rfl
  |cons x xs ih=>
   intro k hs t;simp only [List.all_cons,Bool.and_eq_true] at hs;simp only [frOf,List.cons_append,fget]
   split
   ·exact .inr ⟨rfl,hs.1⟩
   ·exact ih (k+1) hs.2 t
 exact key xs 0 hs
theorem KI {sd:List PE} {sn:List Nat} {G:List PE} {xs:List AV} {fr fr':Fr} {H0:Hp} (hx:xs.length<=1000) (hs:xs.all (s3 dF)=true) (h: ∀t,fget fr' t= .any\/(fget fr' t=fget fr t/\s3 dF (fget fr' t)=true)) (hH: ∀i o,hget (br sd sn G) i=some o->hget H0 i=some o):Wk (frOf 0 xs++lft fr) H0 (frOf 0 xs++lft fr') (br sd sn G):=
 KJ (y5r xs fr fr' hx hs h) hH
theorem Y7 {sd:List PE} {sn:List Nat} {G:List PE} (hG:G.length<=900000) {F A fr1:Fr} {o1 o2:AObj} (dA:fr1.all (fun q=>s3 dF q.2)=true) (Cn:qp [(1000005,o1),(1000006,o2)] o1) (pU:qp [(1000005,o1),(1000006,o2)] o2) (h1:yem [(1000005,o1),(1000006,o2)] F)
  (hA: ∀q∈A,bg [(1000005,o1),(1000006,o2)] 4 (fget F q.1)=q.2/\q.1<1000000/\s3 dF q.2=true) (hl: ∀t,1000000<=t->fget F t=fget (lft fr1) t):Wk F ((1000006,o2)::(1000005,o1)::br sd sn G) (A++lft fr1) (br sd sn G):=by
 have qW: ∀k,k<1000005->hget [(1000005,o1),(1000006,o2)] k=none:=fun k hk=>by
  simp only [hget];rw [if_neg (by omega),if_neg (by omega)]
 have e1:=J3 (U9 qW) dA;have e2:=N1 qW sd sn G hG;have h2:ydp [(1000005,o1),(1000006,o2)] ((1000006,o2)::(1000005,o1)::br sd sn G):=by
  simp only [ydp] at e2⊢;exact ⟨pU,Cn,by rw [e2.1];trivial⟩
 refine (Wk.ln (H:=(1000006,o2)::(1000005,o1)::br sd sn G) [1000005,1000006] h1 h2 rfl rfl).trans ?_;change Wk (frzF [(1000005,o1),(1000006,o2)] F) (c9 [(1000005,o1),(1000006,o2)] ((1000006,o2)::(1000005,o1)::br sd sn G)) _ _;refine KJ (Gt (fun q hq=>?_) (fun t ht=>?_) dA) fun i o hi=>?_
 ·have:=hA q hq
  rw [Du];exact this
 ·rw [Du,hl t ht,←Du,e1.2]
 ·rw [c9,c9,e2.2];have az: ∀k,1000005<=k->k≠i:=fun k hk e=>by subst e;rw [Dk hG hk] at hi;cases hi
  simp only [hget];rw [if_neg (az _ (by omega)),if_neg (az _ (by omega))];exact hi
abbrev AA (m ends:List Int) (c:Nat):AV:= .agg [I ends.length,roI (bA m ends c),roI (dx m ends c),roI (aP m ends c)]
def exI (m:List Int) (c sp:Nat) (ends:List Int) (G:List PE) (g:PE):Nat->List PE
 |0=>G
 |1=>updE G (pS (dG m ends c (dK g.key) false)) (g.lo+1-2*((c6 m ends c (dK g.key) false-sp:Nat):Int)) (tsL (c6 m ends c (dK g.key) false-sp) g.cs)
 |_=>sT m c sp ends G g
section
variable {m:List Int} {n:Nat} {P:List Nat} {ends:List Int} {c:Nat} (hp:aE m n) (he:s5 m n P ends) (hc:c<n) (bB:c∉P) (hw:ends.length<=90) (iV:(aP m ends c).length<=90)
include hp he hc bB hw iV
theorem Yl (sd:List PE) (sn:List Nat) (G:List PE) (g:PE) (sp:Nat) (eZ:sp<=1) {par R:Int} (hk:g.key=pS (dK g.key)/\oX (dK g.key) ends.length) (rM:(g.lo-par)% 2=0) (vn: -R<=g.lo/\g.lo+2*(g.cs.length:Int)<=R) (h0:0<g.cs.length) (hR:R<=90000)
  (hG:sc (aP m ends c).length (par+1) (R+200) G) (XY:G.length<800000) (Qz: ∀x∈G,mxN x.cs<=1125899906842624) (kB: ∀b,2^c6 m ends c (dK g.key) b*mxN g.cs<=1125899906842624) {fr fr1:Fr} {H0:Hp} {K:AV->Fr->Hp->Prop} (dA:fr1.all (fun q=>s3 dF q.2)=true)
  (Ph:Wk (frOf 0 [AA m ends c, .str g.key,tpA g.lo g.cs,I sp, .fn 144 [.ptr 1000003 0]]++lft fr) H0 (frOf 0 [AA m ends c, .str g.key,tpA g.lo g.cs,I sp, .fn 144 [.ptr 1000003 0]]++lft fr1) (br sd sn G))
  (hK:K (.tup []) fr1 (br sd sn (sT m c sp ends G g))):
  fM Tryz.prog 146 [AA m ends c, .str g.key,tpA g.lo g.cs,I sp, .fn 144 [.ptr 1000003 0]] fr H0 K:=by
 have j9:max 1000001 (hnew (eX 0 G))=1000001:=by have:=s9 G 0;omega
 refine fM.intro [] Tryz.func146 rfl rfl (by decide) (by simp [Tryz.ntmps146]) ?_;rw [Tryz.ntmps146];refine jt.wk Ph ?_;have QK:w8 G:=⟨hG.nd,by omega,fun x hx=>by have:=hG.rg x hx;omega,fun x hx=>by have:=Qz x hx;omega⟩
 repeat' (first|omega|(try apply ag);simp only [go_sem,sevalprocAttr,j9]|apply ah<;>(intro h_;(try simp only [h_]);revert h_)|apply ai|apply aj|apply ae|apply And.intro|with_reducible intro h_|trivial|simp only [go_sem,ak];omega)
 refine fb.uB (a:=1) (b:=0) (c:=3) (d:=2) (e:=3) rfl rfl (by simp only [go_sem,sevalprocAttr]) (by simp only [go_sem,sevalprocAttr]) (by simp only [go_sem,sevalprocAttr]) rfl rfl rfl rfl ?_
 repeat' (first|omega|(try apply ag);simp only [go_sem,sevalprocAttr,j9]|apply ah<;>(intro h_;(try simp only [h_]);revert h_)|apply ai|apply aj|apply ae|apply And.intro|with_reducible intro h_|trivial|simp only [go_sem,ak];omega)
 refine fb.uB (a:=3) (b:=2) (c:=1) (d:=0) (e:=3) rfl rfl (by simp only [go_sem,sevalprocAttr]) (by simp only [go_sem,sevalprocAttr]) (by simp only [go_sem,sevalprocAttr]) rfl rfl rfl rfl ?_
 repeat' (first|omega|(try apply ag);simp only [go_sem,sevalprocAttr,j9]|apply ah<;>(intro h_;(try simp only [h_]);revert h_)|apply ai|apply aj|apply ae|apply And.intro|with_reducible intro h_|trivial|simp only [go_sem,ak];omega)
 refine fb.AK (a:=1) (b:=0) (c:=3) (d:=2) (a':=3) (b':=2) (c':=1) (d':=0) (e:=183) rfl rfl (by simp only [go_sem,sevalprocAttr]) (by simp only [go_sem,sevalprocAttr]) (by simp only [go_sem,sevalprocAttr]) rfl rfl ?_
 repeat' (first|omega|(try apply ag);simp only [go_sem,sevalprocAttr,j9]|apply ah<;>(intro h_;(try simp only [h_]);revert h_)|apply ai|apply aj|apply ae|apply And.intro|with_reducible intro h_|trivial|simp only [go_sem,ak];omega)
 refine bV.intro (fun n' fr' H=> ∃i:Nat,i<=2/\n'=2-i/\fr'=[(18,I i),(17, .agg [I 1,I 0,I 3,I 2,I 3,I 2,I 1,I 0]),(7, .rp (.lst [I g.lo,roI g.cs]) 0),(5, .rp (.lst [I ends.length,roI (bA m ends c),roI (dx m ends c),roI (aP m ends c)]) 0),(1, .str g.key),(3,I sp),(4, .fn 144 [.ptr 1000003 0])]++lft fr1/\
  H=br sd sn (exI m c sp ends G g i)) ?_ ?_
 ·refine ⟨_,_,_,Y7 (by omega) dA ?_ ?_ ?_ ?_ (fun t ht=>?_),0,by omega,rfl,rfl,rfl⟩
  ·simp only [go_sem,sevalprocAttr,List.forall_mem_cons]
  ·simp only [go_sem,sevalprocAttr,List.forall_mem_cons]
  ·have qW: ∀(o1 o2:AObj) (k:Nat),k<1000005->hget [(1000005,o1),(1000006,o2)] k=none:=fun o1 o2 k hk=>by
    simp only [hget];rw [if_neg (by omega),if_neg (by omega)]
   have hl:=fun o1 o2=>(J3 (U9 (qW o1 o2)) dA).1;simp only [go_sem,sevalprocAttr,hl,yem,bx]
  ·simp only [go_sem,sevalprocAttr,List.forall_mem_cons,bg,dF,Option.isSome_some]
  ·simp only [fget]
   repeat rw [if_neg (by omega)]
 rintro n' fr' H ⟨i,hi,rfl,rfl,rfl⟩;obtain rfl|rfl|rfl:i=0\/i=1\/i=2:=by omega
 ·obtain ⟨G1,wZ⟩: ∃G1,exI m c sp ends G g 0=G1:=⟨_,rfl⟩;have fX:w8 G1:=by rw [←wZ];exact QK
  have ez: ∀x∈G1,(x.lo-(par+1))% 2=0:=by rw [←wZ];exact hG.pr
  have Ay:G1.length<=900000:=by have:=fX.len;omega
  have tJ:max 1000001 (hnew (eX 0 G1))=1000001:=by have:=s9 G1 0;omega
  rw [wZ];have bi:decide (((0:Nat):Int)<2)=true:=by decide
  have An:=TV hp he hk.2 hc bB hw false;rw [←hk.1] at An;have II:=CO m ends c (dK g.key) false;have PM:=kB false;have hq:=(vS hp he hk.2 hc bB (fun _=>false)).1;have hlen:=hq.len;obtain ⟨cc,ue⟩: ∃cc,c6 m ends c (dK g.key) false=cc:=⟨_,rfl⟩;rw [ue] at An II PM
  repeat' (first|omega|(try apply ag);simp only [go_sem,sevalprocAttr,bi,tJ]|apply ah<;>(intro h_;(try simp only [h_]);revert h_)|apply ai|apply aj|apply ae|apply And.intro|with_reducible intro h_|trivial|simp only [go_sem,ak];omega)
  refine ⟨aA.fn rfl An ?_⟩
  repeat' (first|omega|(try apply ag);simp only [go_sem,sevalprocAttr,bi,tJ]|apply ah<;>(intro h_;(try simp only [h_]);revert h_)|apply ai|apply aj|apply ae|apply And.intro|with_reducible intro h_|trivial|simp only [go_sem,ak];omega)
  refine bV.intro (fun n' fr' H=> ∃(j:Nat) (ow:Int),j<=cc-sp/\ow=(g.lo+1)-2*(j:Int)/\n'=cc-sp-j/\fr'=[(41,I j),(40,I ((cc:Int)-sp)),(14, .ptr 1000006 0),(12, .str (pS (dG m ends c (dK g.key) false))),(18,I ((0:Nat):Int)),(17, .agg [I 1,I 0,I 3,I 2,I 3,I 2,I 1,I 0]),(7, .rp (.lst [I g.lo,roI g.cs]) 0),(5, .rp (.lst [I ends.length,roI (bA m ends c),roI (dx m ends c),roI (aP m ends c)]) 0),(1, .str g.key),(3,I sp),(4, .fn 144 [.ptr 1000003 0])]++lft fr1/\
   H=(1000006, .cells 151 (.lst [I ow,roI (tsL j g.cs)]))::br sd sn G1) ?_ ?_
  ·refine ⟨_,_,_,?_,0,g.lo+1,by omega,?_,rfl,rfl,rfl⟩
   ·refine S7 (X:=[(1000005,_)]) (by omega) ?_ (J2 Wj ?_ (fun t ht=>?_) dA) ?_
    ·simp only [go_sem,sevalprocAttr]
    ·simp only [go_sem,sevalprocAttr,List.forall_mem_cons,rF,dF,Option.isSome_some]
    ·simp only [fget]
     repeat rw [if_neg (by omega)]
    ·simp only [go_sem,sevalprocAttr,List.forall_mem_cons]
   ·omega
  rintro n' fr' H ⟨j,ow,hj,Af,rfl,rfl,rfl⟩;by_cases tP:j<cc-sp
  ·have bj:decide ((j:Int)<(cc:Int)-sp)=true:=by rw [decide_eq_true_eq];omega
   have Pm:=Sx ow (tsL j g.cs) (by omega) (by rw [pG];omega) (Br (by
    have h1:=yY g.cs j;have h2:2^j*mxN g.cs<=2^cc*mxN g.cs:=Nat.mul_le_mul_right _ (Nat.pow_le_pow_right (by omega) (by omega));omega))
   repeat' (first|omega|(try apply ag);simp only [go_sem,sevalprocAttr,bj]|apply ah<;>(intro h_;(try simp only [h_]);revert h_)|apply ai|apply aj|apply ae|apply And.intro|with_reducible intro h_|trivial|simp only [go_sem,ak];omega)
   refine ⟨aA.fn rfl Pm ?_⟩
   repeat' (first|omega|(try apply ag);simp only [go_sem,sevalprocAttr,bj]|apply ah<;>(intro h_;(try simp only [h_]);revert h_)|apply ai|apply aj|apply ae|apply And.intro|with_reducible intro h_|trivial|simp only [go_sem,ak];omega)
   refine ⟨_,_,_,?_,Wk.w6 (A:=[(41,I ((j+1:Nat):Int)),(40,I ((cc:Int)-sp)),(14, .ptr 1000006 0),(12, .str (pS (dG m ends c (dK g.key) false))),(18,I ((0:Nat):Int)),(17, .agg [I 1,I 0,I 3,I 2,I 3,I 2,I 1,I 0]),(7, .rp (.lst [I g.lo,roI g.cs]) 0),(5, .rp (.lst [I ends.length,roI (bA m ends c),roI (dx m ends c),roI (aP m ends c)]) 0),(1, .str g.key),(3,I sp),(4, .fn 144 [.ptr 1000003 0])]) ?_ (fun t ht=>?_),j+1,ow-2,by omega,by omega,rfl,rfl,rfl⟩
   ·omega
   ·simp only [go_sem,sevalprocAttr,List.forall_mem_cons]
   ·simp only [fget]
    repeat rw [if_neg (by omega)]
  ·obtain rfl:j=cc-sp:=by omega
   have Ae:ow=(g.lo+1)-2*((cc-sp:Nat):Int):=Af;have bj:decide (((cc-sp:Nat):Int)<(cc:Int)-sp)=false:=by rw [decide_eq_false_iff_not];omega
   repeat' (first|omega|(try apply ag);simp only [go_sem,sevalprocAttr,bj]|apply ah<;>(intro h_;(try simp only [h_]);revert h_)|apply ai|apply aj|apply ae|apply And.intro|with_reducible intro h_|trivial|simp only [go_sem,ak];omega)
   refine ⟨aA.inline (T0 (fr1:=[(18,I ((0:Nat):Int)),(17, .agg [I 1,I 0,I 3,I 2,I 3,I 2,I 1,I 0]),(7, .rp (.lst [I g.lo,roI g.cs]) 0),(5, .rp (.lst [I ends.length,roI (bA m ends c),roI (dx m ends c),roI (aP m ends c)]) 0),(1, .str g.key),(3,I sp),(4, .fn 144 [.ptr 1000003 0])]++lft fr1) sd sn G1 (pS (dG m ends c (dK g.key) false)) ow (tsL (cc-sp) g.cs) fX (fun x hx _=>by have:=ez x hx;omega) (by rw [pG];omega) ?_ (by rw [pG];omega) ?_ (KI (by simp) ?_ (Gt ?_ (fun t ht=>?_) dA) ?_) ?_)⟩
   ·have h1:=yY g.cs (cc-sp);have h2:2^(cc-sp)*mxN g.cs<=2^cc*mxN g.cs:=Nat.mul_le_mul_right _ (Nat.pow_le_pow_right (by omega) (by omega));omega
   ·rw [List.all_append,Gx dA];rfl
   ·rfl
   ·simp only [go_sem,sevalprocAttr,List.forall_mem_cons,dF,Option.isSome_some]
   ·simp only [fget]
    repeat rw [if_neg (by omega)]
   ·intro i o tR;rw [hget,if_neg fun e=>by subst e;rw [Dk Ay (by omega)] at tR;cases tR];exact tR
   ·have gL:updE G1 (pS (dG m ends c (dK g.key) false)) ow (tsL (cc-sp) g.cs)=exI m c sp ends G g 1:=by
     rw [Ae,←wZ,←ue];rfl
    rw [gL]
    repeat' (first|omega|(try apply ag);simp only [go_sem,sevalprocAttr,bj]|apply ah<;>(intro h_;(try simp only [h_]);revert h_)|apply ai|apply aj|apply ae|apply And.intro|with_reducible intro h_|trivial|simp only [go_sem,ak];omega)
    refine ⟨_,_,_,?_,Wk.w6 (A:=[(18,I ((1:Nat):Int)),(17, .agg [I 1,I 0,I 3,I 2,I 3,I 2,I 1,I 0]),(7, .rp (.lst [I g.lo,roI g.cs]) 0),(5, .rp (.lst [I ends.length,roI (bA m ends c),roI (dx m ends c),roI (aP m ends c)]) 0),(1, .str g.key),(3,I sp),(4, .fn 144 [.ptr 1000003 0])]) ?_ (fun t ht=>?_),1,by omega,rfl,rfl,rfl⟩
    ·omega
    ·(simp only [go_sem,sevalprocAttr,List.forall_mem_cons])<;>rfl
    ·simp only [fget]
     repeat rw [if_neg (by omega)]
 ·obtain ⟨G1,wZ⟩: ∃G1,exI m c sp ends G g 1=G1:=⟨_,rfl⟩;have qM:=(vS hp he hk.2 hc bB (fun _=>false)).1;have hcc0:=CO m ends c (dK g.key) false;have hmb0:=kB false;have vm:=yY g.cs (c6 m ends c (dK g.key) false-sp);have hpw0:2^(c6 m ends c (dK g.key) false-sp)*mxN g.cs<=2^c6 m ends c (dK g.key) false*mxN g.cs:=Nat.mul_le_mul_right _ (Nat.pow_le_pow_right (by omega) (by omega))
  have zZ:sc (aP m ends c).length (par+1) (R+200) (exI m c sp ends G g 1):=hG.dt (by omega) qM (by omega) (by rw [pG];omega) (by rw [pG];omega);have fX:w8 G1:=by
   rw [←wZ];refine ⟨zZ.nd,by have:=(KO G (pS (dG m ends c (dK g.key) false)) (g.lo+1-2*((c6 m ends c (dK g.key) false-sp:Nat):Int)) (tsL (c6 m ends c (dK g.key) false-sp) g.cs)).1;simp only [exI];omega,fun x hx=>by have:=zZ.rg x hx;omega,fun x hx=>?_⟩;rcases KN G hx with hx|rfl|⟨y,hy,_,rfl⟩
   ·have:=Qz x hx;omega
   ·dsimp only;omega
   ·have h1:=Qz y hy;have h2:=Vf y (g.lo+1-2*((c6 m ends c (dK g.key) false-sp:Nat):Int)) (tsL (c6 m ends c (dK g.key) false-sp) g.cs);omega
  have ez: ∀x∈G1,(x.lo-(par+1))% 2=0:=by rw [←wZ];exact zZ.pr
  have Ay:G1.length<=900000:=by have:=fX.len;omega
  have tJ:max 1000001 (hnew (eX 0 G1))=1000001:=by have:=s9 G1 0;omega
  rw [wZ];have bi:decide (((1:Nat):Int)<2)=true:=by decide
  have An:=TV hp he hk.2 hc bB hw true;rw [←hk.1] at An;have II:=CO m ends c (dK g.key) true;have PM:=kB true;have hq:=(vS hp he hk.2 hc bB (fun _=>true)).1;have hlen:=hq.len;obtain ⟨cc,ue⟩: ∃cc,c6 m ends c (dK g.key) true=cc:=⟨_,rfl⟩;rw [ue] at An II PM
  repeat' (first|omega|(try apply ag);simp only [go_sem,sevalprocAttr,bi,tJ]|apply ah<;>(intro h_;(try simp only [h_]);revert h_)|apply ai|apply aj|apply ae|apply And.intro|with_reducible intro h_|trivial|simp only [go_sem,ak];omega)
  refine ⟨aA.fn rfl An ?_⟩
  repeat' (first|omega|(try apply ag);simp only [go_sem,sevalprocAttr,bi,tJ]|apply ah<;>(intro h_;(try simp only [h_]);revert h_)|apply ai|apply aj|apply ae|apply And.intro|with_reducible intro h_|trivial|simp only [go_sem,ak];omega)
  refine bV.intro (fun n' fr' H=> ∃(j:Nat) (ow:Int),j<=cc-sp/\ow=(g.lo-1)-2*(j:Int)/\n'=cc-sp-j/\fr'=[(41,I j),(40,I ((cc:Int)-sp)),(14, .ptr 1000006 0),(12, .str (pS (dG m ends c (dK g.key) true))),(18,I ((1:Nat):Int)),(17, .agg [I 1,I 0,I 3,I 2,I 3,I 2,I 1,I 0]),(7, .rp (.lst [I g.lo,roI g.cs]) 0),(5, .rp (.lst [I ends.length,roI (bA m ends c),roI (dx m ends c),roI (aP m ends c)]) 0),(1, .str g.key),(3,I sp),(4, .fn 144 [.ptr 1000003 0])]++lft fr1/\
   H=(1000006, .cells 151 (.lst [I ow,roI (tsL j g.cs)]))::br sd sn G1) ?_ ?_
  ·refine ⟨_,_,_,?_,0,g.lo+1-2,by omega,?_,rfl,rfl,rfl⟩
   ·refine S7 (X:=[(1000005,_)]) (by omega) ?_ (J2 Wj ?_ (fun t ht=>?_) dA) ?_
    ·simp only [go_sem,sevalprocAttr]
    ·simp only [go_sem,sevalprocAttr,List.forall_mem_cons,rF,dF,Option.isSome_some]
    ·simp only [fget]
     repeat rw [if_neg (by omega)]
    ·simp only [go_sem,sevalprocAttr,List.forall_mem_cons]
   ·omega
  rintro n' fr' H ⟨j,ow,hj,Af,rfl,rfl,rfl⟩;by_cases tP:j<cc-sp
  ·have bj:decide ((j:Int)<(cc:Int)-sp)=true:=by rw [decide_eq_true_eq];omega
   have Pm:=Sx ow (tsL j g.cs) (by omega) (by rw [pG];omega) (Br (by
    have h1:=yY g.cs j;have h2:2^j*mxN g.cs<=2^cc*mxN g.cs:=Nat.mul_le_mul_right _ (Nat.pow_le_pow_right (by omega) (by omega));omega))
   repeat' (first|omega|(try apply ag);simp only [go_sem,sevalprocAttr,bj]|apply ah<;>(intro h_;(try simp only [h_]);revert h_)|apply ai|apply aj|apply ae|apply And.intro|with_reducible intro h_|trivial|simp only [go_sem,ak];omega)
   refine ⟨aA.fn rfl Pm ?_⟩
   repeat' (first|omega|(try apply ag);simp only [go_sem,sevalprocAttr,bj]|apply ah<;>(intro h_;(try simp only [h_]);revert h_)|apply ai|apply aj|apply ae|apply And.intro|with_reducible intro h_|trivial|simp only [go_sem,ak];omega)
   refine ⟨_,_,_,?_,Wk.w6 (A:=[(41,I ((j+1:Nat):Int)),(40,I ((cc:Int)-sp)),(14, .ptr 1000006 0),(12, .str (pS (dG m ends c (dK g.key) true))),(18,I ((1:Nat):Int)),(17, .agg [I 1,I 0,I 3,I 2,I 3,I 2,I 1,I 0]),(7, .rp (.lst [I g.lo,roI g.cs]) 0),(5, .rp (.lst [I ends.length,roI (bA m ends c),roI (dx m ends c),roI (aP m ends c)]) 0),(1, .str g.key),(3,I sp),(4, .fn 144 [.ptr 1000003 0])]) ?_ (fun t ht=>?_),j+1,ow-2,by omega,by omega,rfl,rfl,rfl⟩
   ·omega
   ·simp only [go_sem,sevalprocAttr,List.forall_mem_cons]
   ·simp only [fget]
    repeat rw [if_neg (by omega)]
  ·obtain rfl:j=cc-sp:=by omega
   have Ae:ow=(g.lo-1)-2*((cc-sp:Nat):Int):=Af;have bj:decide (((cc-sp:Nat):Int)<(cc:Int)-sp)=false:=by rw [decide_eq_false_iff_not];omega
   repeat' (first|omega|(try apply ag);simp only [go_sem,sevalprocAttr,bj]|apply ah<;>(intro h_;(try simp only [h_]);revert h_)|apply ai|apply aj|apply ae|apply And.intro|with_reducible intro h_|trivial|simp only [go_sem,ak];omega)
   refine ⟨aA.inline (T0 (fr1:=[(18,I ((1:Nat):Int)),(17, .agg [I 1,I 0,I 3,I 2,I 3,I 2,I 1,I 0]),(7, .rp (.lst [I g.lo,roI g.cs]) 0),(5, .rp (.lst [I ends.length,roI (bA m ends c),roI (dx m ends c),roI (aP m ends c)]) 0),(1, .str g.key),(3,I sp),(4, .fn 144 [.ptr 1000003 0])]++lft fr1) sd sn G1 (pS (dG m ends c (dK g.key) true)) ow (tsL (cc-sp) g.cs) fX (fun x hx _=>by have:=ez x hx;omega) (by rw [pG];omega) ?_ (by rw [pG];omega) ?_ (KI (by simp) ?_ (Gt ?_ (fun t ht=>?_) dA) ?_) ?_)⟩
   ·have h1:=yY g.cs (cc-sp);have h2:2^(cc-sp)*mxN g.cs<=2^cc*mxN g.cs:=Nat.mul_le_mul_right _ (Nat.pow_le_pow_right (by omega) (by omega));omega
   ·rw [List.all_append,Gx dA];rfl
   ·rfl
   ·simp only [go_sem,sevalprocAttr,List.forall_mem_cons,dF,Option.isSome_some]
   ·simp only [fget]
    repeat rw [if_neg (by omega)]
   ·intro i o tR;rw [hget,if_neg fun e=>by subst e;rw [Dk Ay (by omega)] at tR;cases tR];exact tR
   ·have gL:updE G1 (pS (dG m ends c (dK g.key) true)) ow (tsL (cc-sp) g.cs)=exI m c sp ends G g 2:=by
     rw [Ae,←wZ,←ue];rfl
    rw [gL]
    repeat' (first|omega|(try apply ag);simp only [go_sem,sevalprocAttr,bj]|apply ah<;>(intro h_;(try simp only [h_]);revert h_)|apply ai|apply aj|apply ae|apply And.intro|with_reducible intro h_|trivial|simp only [go_sem,ak];omega)
    refine ⟨_,_,_,?_,Wk.w6 (A:=[(18,I ((2:Nat):Int)),(17, .agg [I 1,I 0,I 3,I 2,I 3,I 2,I 1,I 0]),(7, .rp (.lst [I g.lo,roI g.cs]) 0),(5, .rp (.lst [I ends.length,roI (bA m ends c),roI (dx m ends c),roI (aP m ends c)]) 0),(1, .str g.key),(3,I sp),(4, .fn 144 [.ptr 1000003 0])]) ?_ (fun t ht=>?_),2,by omega,rfl,rfl,rfl⟩
    ·omega
    ·(simp only [go_sem,sevalprocAttr,List.forall_mem_cons])<;>rfl
    ·simp only [fget]
     repeat rw [if_neg (by omega)]
 ·have bi:decide (((2:Nat):Int)<2)=false:=by decide
  repeat' (first|omega|(try apply ag);simp only [go_sem,sevalprocAttr,bi]|apply ah<;>(intro h_;(try simp only [h_]);revert h_)|apply ai|apply aj|apply ae|apply And.intro|with_reducible intro h_|trivial|simp only [go_sem,ak];omega)
  all_goals exact hK
end
end Go.Proofs.YtphjphpmfflfpaaGreatDoor
