/- Layer 17: sweep's update in general; one state is expanded. -/
import Derived.Test.YtmdjdekgakidhaaGreatDoorZp
namespace Go.Proofs.YtmdjdekgakidhaaGreatDoor
open Go Go.RowKit
set_option maxRecDepth 100000
set_option maxHeartbeats 8000000
set_option linter.unusedVariables false
set_option linter.unusedSimpArgs false
structure uF (G:List PE):Prop where
 nd:jX G
 len:G.length<900000
 rg: ∀g∈G,-100000<=g.lo/\g.lo+2*(g.cs.length:Int)<=100000
 mx: ∀g∈G,mxN g.cs<=1152921504606846976
theorem xQ {cs:List Int} (h:mxN cs<=1152921504606846976) (i:Nat): -1152921504606846976<=cs.getD i 0/\cs.getD i 0<=1152921504606846976:=by
 have:=uU cs i
 omega
theorem Qu (sd:List PE) (sn:List Nat) (G:List PE) (s:ByteArray) (lo:Int) (cs:List Int) (hG:uF G) (hp: ∀g∈G,g.key=s->(g.lo-lo)% 2=0) (hr: -100000<=lo/\lo+2*(cs.length:Int)<=100000) (hm:mxN cs<=1152921504606846976) (h0:0<cs.length) {fr fr1:Fr} {H0:Hp} {K:AV->Fr->Hp->Prop} (dx:fr1.all (fun q=>s3 de q.2)=true)
  (hw:Wk (frOf 0 [.str s,tpA lo cs, .ptr 1000003 0]++lft fr) H0 (frOf 0 [.str s,tpA lo cs, .ptr 1000003 0]++lft fr1) (aM sd sn G))
  (hK:K (.tup []) fr1 (aM sd sn (updE G s lo cs))):
  gq Tryz.prog 111 [.str s,tpA lo cs, .ptr 1000003 0] fr H0 K:=by
 by_cases hx: ∃g∈G,g.key=s
 ·obtain ⟨g,hg,rfl⟩:=hx;obtain ⟨j,b9,hj⟩:=List.mem_iff_getElem.1 hg;have eJ:G[j]?=some g:=by rw [zzI b9,hj]
  have mS:=hG.rg g hg;have Yw:=hp g hg rfl;rw [PD G hG.nd eJ] at hK;obtain ⟨a,b,dt,h1,h2,h3⟩:=FP (cs:=cs) Yw;rw [FQ a b _ dt h1 h2 h3 rfl] at hK;by_cases hf:a=0/\b+cs.length<=g.cs.length
  ·obtain ⟨rfl,hb⟩:=hf;have e1:g.lo=dt:=by omega
   have e2:max (0+g.cs.length) (b+cs.length)=g.cs.length:=by omega
   rw [e2,WJ,←e1] at hK;rw [←e1] at h2;subst h2;exact UB sd sn G j b g cs (by have:=hG.len;omega) hG.nd eJ hb (by omega) (by omega) (xQ (hG.mx g hg)) (xQ hm) dx hw hK
  ·exact UN sd sn G j a b _ dt g lo cs (by have:=hG.len;omega) hG.nd eJ h1 h2 h3 (by omega) (by omega) (by omega) (by omega) (by omega) (by omega) (xQ (hG.mx g hg)) (xQ hm) dx hw hK
 ·have cK: ∀g∈G,g.key≠s:=fun g hg e=>hx ⟨g,hg,e⟩;rw [PF G cK] at hK;exact UA sd sn G s lo cs hG.len hG.nd cK (by omega) h0 dx hw hK
section
variable {ok HF:Hp} (h: ∀k,(hget ok k).isSome=true->hget HF k=none)
include h
theorem yq (n:Nat): ∀(x:AV),s1 ok x=true->aI HF (n+1) x=x/\aP HF (n+1) x
 | .ptr k o,h1=>by simp only [aI,aP,h k h1];exact ⟨trivial,trivial⟩
 | .sl e k o l,h1=>by simp only [aI,aP,h k h1];exact ⟨trivial,trivial⟩
 | .mp k,h1=>⟨rfl,trivial⟩
 | .agg _,h1=>by cases h1
 | .tup _,h1=>by cases h1
 | .fn _ _,h1=>by cases h1
 | .any,_=>⟨rfl,trivial⟩
 | .int _ _,_=>⟨rfl,trivial⟩
 | .bool _,_=>⟨rfl,trivial⟩
 | .str _,_=>⟨rfl,trivial⟩
 | .nils,_=>⟨rfl,trivial⟩
 | .ro _ _ _,_=>⟨rfl,trivial⟩
 | .rp _ _,_=>⟨rfl,trivial⟩
omit h in
theorem zk {n:Nat} {xs:List AV} (h: ∀x∈xs,aI HF n x=x/\aP HF n x):xs.map (aI HF n)=xs/\ ∀x∈xs,aP HF n x:=by
 refine ⟨?_,fun x hx=>(h x hx).2⟩
 conv=>rhs;rw [←List.map_id xs]
 exact List.map_congr_left fun x hx=>(h x hx).1
theorem GX (n:Nat): ∀(x:AV),s2 ok x=true->aI HF (n+2) x=x/\aP HF (n+2) x
 | .agg xs,h1=>by have:=zk (n:=n+1) fun y hy=>yq h n y (List.all_eq_true.1 h1 y hy);exact ⟨congrArg AV.agg this.1,this.2⟩
 | .tup _,h1=>by cases h1
 | .fn f xs,h1=>by have:=zk (n:=n+1) fun y hy=>yq h n y (List.all_eq_true.1 h1 y hy);exact ⟨congrArg (AV.fn f) this.1,this.2⟩
 | .ptr k o,h1=>yq h (n+1) (.ptr k o) h1
 | .sl e k o l,h1=>yq h (n+1) (.sl e k o l) h1
 | .mp k,_=>⟨rfl,trivial⟩
 | .any,_=>⟨rfl,trivial⟩
 | .int _ _,_=>⟨rfl,trivial⟩
 | .bool _,_=>⟨rfl,trivial⟩
 | .str _,_=>⟨rfl,trivial⟩
 | .nils,_=>⟨rfl,trivial⟩
 | .ro _ _ _,_=>⟨rfl,trivial⟩
 | .rp _ _,_=>⟨rfl,trivial⟩
theorem Ou (n:Nat): ∀(x:AV),s3 ok x=true->aI HF (n+3) x=x/\aP HF (n+3) x
 | .agg xs,h1=>by have:=zk (n:=n+2) fun y hy=>GX h n y (List.all_eq_true.1 h1 y hy);exact ⟨congrArg AV.agg this.1,this.2⟩
 | .tup xs,h1=>by have:=zk (n:=n+2) fun y hy=>GX h n y (List.all_eq_true.1 h1 y hy);exact ⟨congrArg AV.tup this.1,this.2⟩
 | .fn f xs,h1=>by have:=zk (n:=n+2) fun y hy=>GX h n y (List.all_eq_true.1 h1 y hy);exact ⟨congrArg (AV.fn f) this.1,this.2⟩
 | .ptr k o,h1=>yq h (n+2) (.ptr k o) h1
 | .sl e k o l,h1=>yq h (n+2) (.sl e k o l) h1
 | .mp k,_=>⟨rfl,trivial⟩
 | .any,_=>⟨rfl,trivial⟩
 | .int _ _,_=>⟨rfl,trivial⟩
 | .bool _,_=>⟨rfl,trivial⟩
 | .str _,_=>⟨rfl,trivial⟩
 | .nils,_=>⟨rfl,trivial⟩
 | .ro _ _ _,_=>⟨rfl,trivial⟩
 | .rp _ _,_=>⟨rfl,trivial⟩
theorem Gj: ∀{fr:Fr},fr.all (fun q=>s3 ok q.2)=true->yd6 HF (lft fr)=True/\frzF HF (lft fr)=lft fr
 |[],_=>⟨rfl,rfl⟩
 |(t,x)::fr,hf=>by
  simp only [List.all_cons,Bool.and_eq_true] at hf;have h1:=Ou h 1 x hf.1;have h2:=Gj hf.2;simp only [lft,yd6,frzF,h2.1,h2.2];exact ⟨by simp [h1.2],by rw [h1.1]⟩
theorem Na: ∀{fr:Fr},fr.all (fun q=>s3 ok q.2)=true->yd6 HF fr/\frzF HF fr=fr
 |[],_=>⟨trivial,rfl⟩
 |(t,x)::fr,hf=>by
  simp only [List.all_cons,Bool.and_eq_true] at hf;have h1:=Ou h 1 x hf.1;have h2:=Na hf.2;simp only [yd6,frzF,h2.2];exact ⟨⟨h1.2,h2.1⟩,by rw [h1.1]⟩
end
theorem Rt {HF:Hp} (h: ∀k,k<1000005->hget HF k=none) (k:Nat) (hk:(hget de k).isSome=true):hget HF k=none:=h k (by have:=yr hk;omega)
section
variable {HF:Hp} (h: ∀k,k<1000005->hget HF k=none)
include h
theorem M9: ∀(G:List PE) (i:Nat),i+G.length<=900000->yc8 HF (dH i G)=True/\cG HF (dH i G)=dH i G
 |[],_,_=>⟨rfl,rfl⟩
 |g::G,i,hl=>by
  simp only [zzG] at hl
  have:=M9 G (i+1) (by omega)
  simp only [dH,yc8,og,cG,frzO,h (i+10) (by omega),this.1,this.2,and_self]
theorem JH (sd:List PE) (sn:List Nat) (G:List PE) (hl:G.length<=900000):yc8 HF (aM sd sn G)=True/\cG HF (aM sd sn G)=aM sd sn G:=by
 have h1:=M9 h G 0 (by omega);have hv: ∀k lo n,0<=k->k<0+G.length->aI HF 4 (.agg [I lo, .sl 1 (k+10) 0 n])= .agg [I lo, .sl 1 (k+10) 0 n]:=fun k lo n _ hk=>by
  simp only [aI,List.map_cons,List.map_nil,h (k+10) (by omega)]
 have hD:(ei 0 sd).map (fun q=>(q.1,q.2.1,aI HF 4 q.2.2))=ei 0 sd:=by
  conv=>rhs;rw [←List.map_id (ei 0 sd)]
  exact List.map_congr_left fun q hq=>by obtain ⟨k,g,_,rfl⟩:=oh _ _ _ hq;rfl
 constructor
 ·simp only [yc8,og,h1.1,and_true,true_and,eq_iff_iff,iff_true];refine ⟨fun x hx=>?_,fun q hq=>?_,fun q hq=>?_,fun x hx=>?_⟩
  ·simp only [List.mem_cons,zzH,or_false] at hx;subst hx;trivial
  ·obtain ⟨k,g,hk,rfl⟩:=D4 _ _ _ hq;have bM:=(List.getElem?_eq_some_iff.1 hk).1;simp only [aP,List.forall_mem_cons,h (0+k+10) (by omega)];exact ⟨trivial,trivial,by simp⟩
  ·obtain ⟨k,g,hk,rfl⟩:=oh _ _ _ hq;simp only [aP,List.forall_mem_cons];exact ⟨trivial,trivial,by simp⟩
  ·simp only [List.mem_cons,zzH,or_false] at hx;rcases hx with rfl|rfl<;>trivial
 ·simp only [cG,frzO,h 1000004 (by omega),h 1000003 (by omega),h 1000002 (by omega),h 2 (by omega),h 1 (by omega),h 1000000 (by omega),h1.2,D5 G 0 hv,hD,List.map_cons,List.map_nil];rfl
end
theorem Ag {sd:List PE} {sn:List Nat} {G:List PE} (hl:G.length<=900000) {k:Nat} (hk:1000005<=k):hget (aM sd sn G) k=none:=by
 simp only [hget]
 repeat rw [if_neg (by omega)]
 exact O1 (.inr (by omega))
theorem xP {sd:List PE} {sn:List Nat} {G:List PE} (k:Nat) (h:(hget de k).isSome=true):(hget (aM sd sn G) k).isSome=true:=by
 rcases yr h with e|e|e|e|e<;>subst e<;>rfl
theorem D3: ∀{fr:Fr},fr.all (fun q=>s3 de q.2)=true->(lft fr).all (fun q=>s3 de q.2)=true
 |[],_=>rfl
 |(t,x)::fr,h=>by
  simp only [List.all_cons,Bool.and_eq_true] at h;simp only [lft,List.all_cons,Bool.and_eq_true];exact ⟨h.1,D3 h.2⟩
theorem Gi {ok:Hp} (cE: ∀k,(hget de k).isSome=true->(hget ok k).isSome=true) {F A fr1:Fr} (hA: ∀q∈A,fget F q.1=q.2/\q.1<1000000/\s3 ok q.2=true) (hl: ∀t,1000000<=t->fget F t=fget (lft fr1) t) (dx:fr1.all (fun q=>s3 de q.2)=true) (t:Nat):fget (A++lft fr1) t= .any\/(fget (A++lft fr1) t=fget F t/\s3 ok (fget (A++lft fr1) t)=true):=by
 induction A with
 |nil=>
  rw [List.nil_append];rcases Nat.lt_or_ge t 1000000 with h|h
  ·left;rw [sM,if_neg (by omega)]
  ·rcases Di (D3 dx) t with g|g
   ·exact .inl g
   ·exact .inr ⟨(hl t h).symm,sF cE _ g⟩
 |cons q A ih=>
  obtain ⟨s,x⟩:=q;rw [List.cons_append];simp only [fget]
  split
  ·rename_i e;subst e
   have:=hA (s,x) (zzD ..)
   exact .inr ⟨this.1.symm,this.2.2⟩
  ·exact ih fun q hq=>hA q (zzE _ hq)
theorem Dg {F A fr1:Fr} (hA: ∀q∈A,fget F q.1=q.2/\q.1<1000000/\s3 de q.2=true) (hl: ∀t,1000000<=t->fget F t=fget (lft fr1) t) (dx:fr1.all (fun q=>s3 de q.2)=true) (t:Nat):fget (A++lft fr1) t= .any\/(fget (A++lft fr1) t=fget F t/\s3 de (fget (A++lft fr1) t)=true):=Gi (fun _ h=>h) hA hl dx t
def ph:Hp:=(1000006, .gone)::de
theorem M8 (k:Nat) (h:(hget de k).isSome=true):(hget ph k).isSome=true:=by
 rcases yr h with e|e|e|e|e<;>subst e<;>rfl
theorem PC {sd:List PE} {sn:List Nat} {G:List PE} (hG:G.length<=900000) {F fr':Fr} {o:AObj} {X:Hp} (ho:sO de o=true) (hF: ∀t,fget fr' t= .any\/(fget fr' t=fget F t/\s3 ph (fget fr' t)=true)) (hX: ∀q∈X,1000005<=q.1):Wk F ((1000006,o)::(X++aM sd sn G)) fr' ((1000006,o)::aM sd sn G):=by
 have hm: ∀k,(hget ph k).isSome=true->(hget ((1000006,o)::aM sd sn G) k).isSome=true:=fun k hk=>by
  simp only [ph,hget] at hk
  split at hk
  ·rename_i e;subst e;rfl
  ·rename_i e
   rw [hget,if_neg e];exact xP k hk
 have k9: ∀k,(hget (aM sd sn G) k).isSome=true->(hget ((1000006,o)::aM sd sn G) k).isSome=true:=fun k hk=>by
  rw [hget];split
  ·rfl
  ·exact hk
 have Md: ∀(X:Hp) (i:Nat),(∀q∈X,1000005<=q.1)->i<1000005->hget (X++aM sd sn G) i=hget (aM sd sn G) i:=fun X i=>by
  induction X with
  |nil=>exact fun _ _=>rfl
  |cons q X ih=>
   obtain ⟨j,a⟩:=q;intro h hi
   have:=h (j,a) (zzD ..)
   rw [List.cons_append,hget,if_neg (by simp only at this;omega),ih (fun q hq=>h q (zzE _ hq)) hi]
 have BF: ∀o',sO (aM sd sn G) o'=true->sO ((1000006,o)::aM sd sn G) o'=true:=fun o' h=>by
  cases o' with
  |gone=>exact h
  |cells t c=>
   cases c with
   |ints l=>rfl
   |bools l=>rfl
   |lst l=>exact List.all_eq_true.2 fun x hx=>sF k9 x (List.all_eq_true.1 h x hx)
  |gmap t ck l=>exact List.all_eq_true.2 fun x hx=>sF k9 _ (List.all_eq_true.1 h x hx)
  |iter mid s sn la=>exact k9 _ h
  |imap t l=>exact List.all_eq_true.2 fun x hx=>sF k9 _ (List.all_eq_true.1 h x hx)
  |fmap t c=>rfl
 refine Wk.tM (fun t=>(hF t).imp id fun h=>⟨h.1,sF hm _ h.2⟩) fun i o' h=>?_;rw [hget] at h⊢
 split at h
 ·rename_i e;subst e
  cases h;rw [if_pos rfl];refine ⟨rfl,?_⟩;cases o with
  |gone=>rfl
  |cells t c=>
   cases c with
   |ints l=>rfl
   |bools l=>rfl
   |lst l=>exact List.all_eq_true.2 fun x hx=>sF (fun k hk=>k9 k (xP k hk)) x (List.all_eq_true.1 ho x hx)
  |gmap t ck l=>exact List.all_eq_true.2 fun x hx=>sF (fun k hk=>k9 k (xP k hk)) _ (List.all_eq_true.1 ho x hx)
  |iter mid s sn la=>exact k9 _ (xP _ ho)
  |imap t l=>exact List.all_eq_true.2 fun x hx=>sF (fun k hk=>k9 k (xP k hk)) _ (List.all_eq_true.1 ho x hx)
  |fmap t c=>rfl
 ·rename_i e
  have hi:i<1000005:=by
   rcases Nat.lt_or_ge i 1000005 with h9|h9
   ·exact h9
   ·rw [Ag hG h9] at h;cases h
  rw [if_neg e,Md X i hX hi];exact ⟨h,BF o' (F0 sd sn G i o' h)⟩
theorem GW {sd:List PE} {sn:List Nat} {G:List PE} {F fr':Fr} {H0:Hp} (hF: ∀t,fget fr' t= .any\/(fget fr' t=fget F t/\s3 de (fget fr' t)=true)) (hH: ∀i o,hget (aM sd sn G) i=some o->hget H0 i=some o):Wk F H0 fr' (aM sd sn G):=
 Wk.tM (fun t=>(hF t).imp id fun h=>⟨h.1,sF xP _ h.2⟩) fun i o h=>⟨hH i o h,F0 sd sn G i o h⟩
theorem WI (xs:List AV) (fr fr':Fr) (hx:xs.length<=1000) (hs:xs.all (s3 de)=true) (h: ∀t,fget fr' t= .any\/(fget fr' t=fget fr t/\s3 de (fget fr' t)=true)): ∀t,fget (frOf 0 xs++lft fr') t= .any\/(fget (frOf 0 xs++lft fr') t=fget (frOf 0 xs++lft fr) t/\s3 de (fget (frOf 0 xs++lft fr') t)=true):=by
 have key: ∀(xs:List AV) (k:Nat),xs.all (s3 de)=true-> ∀t,fget (frOf k xs++lft fr') t= .any\/(fget (frOf k xs++lft fr') t=fget (frOf k xs++lft fr) t/\s3 de (fget (frOf k xs++lft fr') t)=true):=by
  intro xs
  induction xs with
  |nil=>
   intro k _ t;simp only [frOf,List.nil_append,sM]
   split
   ·exact h _
   ·exact .inl rfl
  |cons x xs ih=>
   intro k hs t;simp only [List.all_cons,Bool.and_eq_true] at hs;simp only [frOf,List.cons_append,fget]
   split
   ·exact .inr ⟨rfl,hs.1⟩
   ·exact ih (k+1) hs.2 t
 exact key xs 0 hs
theorem GV {sd:List PE} {sn:List Nat} {G:List PE} {xs:List AV} {fr fr':Fr} {H0:Hp} (hx:xs.length<=1000) (hs:xs.all (s3 de)=true) (h: ∀t,fget fr' t= .any\/(fget fr' t=fget fr t/\s3 de (fget fr' t)=true)) (hH: ∀i o,hget (aM sd sn G) i=some o->hget H0 i=some o):Wk (frOf 0 xs++lft fr) H0 (frOf 0 xs++lft fr') (aM sd sn G):=
 GW (WI xs fr fr' hx hs h) hH
theorem Vm {sd:List PE} {sn:List Nat} {G:List PE} (hG:G.length<=900000) {F A fr1:Fr} {o1 o2:AObj} (dx:fr1.all (fun q=>s3 de q.2)=true) (Yp:og [(1000005,o1),(1000006,o2)] o1) (mU:og [(1000005,o1),(1000006,o2)] o2) (h1:yd6 [(1000005,o1),(1000006,o2)] F)
  (hA: ∀q∈A,aI [(1000005,o1),(1000006,o2)] 4 (fget F q.1)=q.2/\q.1<1000000/\s3 de q.2=true) (hl: ∀t,1000000<=t->fget F t=fget (lft fr1) t):Wk F ((1000006,o2)::(1000005,o1)::aM sd sn G) (A++lft fr1) (aM sd sn G):=by
 have oM: ∀k,k<1000005->hget [(1000005,o1),(1000006,o2)] k=none:=fun k hk=>by
  simp only [hget];rw [if_neg (by omega),if_neg (by omega)]
 have e1:=Gj (Rt oM) dx;have e2:=JH oM sd sn G hG;have h2:yc8 [(1000005,o1),(1000006,o2)] ((1000006,o2)::(1000005,o1)::aM sd sn G):=by
  simp only [yc8] at e2⊢;exact ⟨mU,Yp,by rw [e2.1];trivial⟩
 refine (Wk.jU (H:=(1000006,o2)::(1000005,o1)::aM sd sn G) [1000005,1000006] h1 h2 rfl rfl).trans ?_;change Wk (frzF [(1000005,o1),(1000006,o2)] F) (cG [(1000005,o1),(1000006,o2)] ((1000006,o2)::(1000005,o1)::aM sd sn G)) _ _;refine GW (Dg (fun q hq=>?_) (fun t ht=>?_) dx) fun i o hi=>?_
 ·have:=hA q hq
  rw [Aw];exact this
 ·rw [Aw,hl t ht,←Aw,e1.2]
 ·rw [cG,cG,e2.2];have av: ∀k,1000005<=k->k≠i:=fun k hk e=>by subst e;rw [Ag hG hk] at hi;cases hi
  simp only [hget];rw [if_neg (av _ (by omega)),if_neg (av _ (by omega))];exact hi
abbrev xr (m ends:List Int) (c:Nat):AV:= .agg [I ends.length,roI (aS m ends c),roI (c6 m ends c),roI (aE m ends c)]
def exI (m:List Int) (c sp:Nat) (ends:List Int) (G:List PE) (g:PE):Nat->List PE
 |0=>G
 |1=>updE G (pS (df m ends c (dK g.key) false)) (g.lo+1-2*((ct m ends c (dK g.key) false-sp:Nat):Int)) (tsL (ct m ends c (dK g.key) false-sp) g.cs)
 |_=>pK m c sp ends G g
section
variable {m:List Int} {n:Nat} {P:List Nat} {ends:List Int} {c:Nat} (hp:bD m n) (he:qH m n P ends) (hc:c<n) (aT:c∉P) (hw:ends.length<=90) (oz:(aE m ends c).length<=90)
include hp he hc aT hw oz
theorem Uo (sd:List PE) (sn:List Nat) (G:List PE) (g:PE) (sp:Nat) (eI:sp<=1) {par R:Int} (hk:g.key=pS (dK g.key)/\nr (dK g.key) ends.length) (BN:(g.lo-par)% 2=0) (mS: -R<=g.lo/\g.lo+2*(g.cs.length:Int)<=R) (h0:0<g.cs.length) (hR:R<=90000)
  (hG:oe (aE m ends c).length (par+1) (R+200) G) (TE:G.length<800000) (Mp: ∀x∈G,mxN x.cs<=1125899906842624) (k9: ∀b,2^ct m ends c (dK g.key) b*mxN g.cs<=1125899906842624) {fr fr1:Fr} {H0:Hp} {K:AV->Fr->Hp->Prop} (dx:fr1.all (fun q=>s3 de q.2)=true)
  (K0:Wk (frOf 0 [xr m ends c, .str g.key,tpA g.lo g.cs,I sp, .fn 111 [.ptr 1000003 0]]++lft fr) H0 (frOf 0 [xr m ends c, .str g.key,tpA g.lo g.cs,I sp, .fn 111 [.ptr 1000003 0]]++lft fr1) (aM sd sn G))
  (hK:K (.tup []) fr1 (aM sd sn (pK m c sp ends G g))):
  gq Tryz.prog 113 [xr m ends c, .str g.key,tpA g.lo g.cs,I sp, .fn 111 [.ptr 1000003 0]] fr H0 K:=by
 have jd:max 1000001 (hnew (dH 0 G))=1000001:=by have:=qM G 0;omega
 refine gq.intro [] Tryz.func113 rfl rfl (by decide) (by simp [Tryz.ntmps113]) ?_;rw [Tryz.ntmps113];refine iX.wk K0 ?_;have MA:uF G:=⟨hG.nd,by omega,fun x hx=>by have:=hG.rg x hx;omega,fun x hx=>by have:=Mp x hx;omega⟩
 repeat' (first|omega|(try apply ag);simp only [go_sem,sevalprocAttr,jd]|apply ae<;>(intro h_;(try simp only [h_]);revert h_)|apply And.intro|with_reducible intro h_|trivial|simp only [go_sem,ah];omega)
 refine dS.sq (a:=1) (b:=0) (c:=3) (d:=2) (e:=3) rfl rfl (by simp only [go_sem,sevalprocAttr]) (by simp only [go_sem,sevalprocAttr]) (by simp only [go_sem,sevalprocAttr]) rfl rfl rfl rfl ?_
 repeat' (first|omega|(try apply ag);simp only [go_sem,sevalprocAttr,jd]|apply ae<;>(intro h_;(try simp only [h_]);revert h_)|apply And.intro|with_reducible intro h_|trivial|simp only [go_sem,ah];omega)
 refine dS.sq (a:=3) (b:=2) (c:=1) (d:=0) (e:=3) rfl rfl (by simp only [go_sem,sevalprocAttr]) (by simp only [go_sem,sevalprocAttr]) (by simp only [go_sem,sevalprocAttr]) rfl rfl rfl rfl ?_
 repeat' (first|omega|(try apply ag);simp only [go_sem,sevalprocAttr,jd]|apply ae<;>(intro h_;(try simp only [h_]);revert h_)|apply And.intro|with_reducible intro h_|trivial|simp only [go_sem,ah];omega)
 refine dS.xB (a:=1) (b:=0) (c:=3) (d:=2) (a':=3) (b':=2) (c':=1) (d':=0) (e:=169) rfl rfl (by simp only [go_sem,sevalprocAttr]) (by simp only [go_sem,sevalprocAttr]) (by simp only [go_sem,sevalprocAttr]) rfl rfl ?_
 repeat' (first|omega|(try apply ag);simp only [go_sem,sevalprocAttr,jd]|apply ae<;>(intro h_;(try simp only [h_]);revert h_)|apply And.intro|with_reducible intro h_|trivial|simp only [go_sem,ah];omega)
 refine aR.intro (fun n' fr' H=> ∃i:Nat,i<=2/\n'=2-i/\fr'=[(18,I i),(17, .agg [I 1,I 0,I 3,I 2,I 3,I 2,I 1,I 0]),(7, .rp (.lst [I g.lo,roI g.cs]) 0),(5, .rp (.lst [I ends.length,roI (aS m ends c),roI (c6 m ends c),roI (aE m ends c)]) 0),(1, .str g.key),(3,I sp),(4, .fn 111 [.ptr 1000003 0])]++lft fr1/\
  H=aM sd sn (exI m c sp ends G g i)) ?_ ?_
 ·refine ⟨_,_,_,Vm (by omega) dx ?_ ?_ ?_ ?_ (fun t ht=>?_),0,by omega,rfl,rfl,rfl⟩
  ·simp only [go_sem,sevalprocAttr,List.forall_mem_cons]
  ·simp only [go_sem,sevalprocAttr,List.forall_mem_cons]
  ·have oM: ∀(o1 o2:AObj) (k:Nat),k<1000005->hget [(1000005,o1),(1000006,o2)] k=none:=fun o1 o2 k hk=>by
    simp only [hget];rw [if_neg (by omega),if_neg (by omega)]
   have hl:=fun o1 o2=>(Gj (Rt (oM o1 o2)) dx).1;simp only [go_sem,sevalprocAttr,hl,yd6,aP]
  ·simp only [go_sem,sevalprocAttr,List.forall_mem_cons,aI,de,Option.isSome_some]
  ·simp only [fget]
   repeat rw [if_neg (by omega)]
 rintro n' fr' H ⟨i,hi,rfl,rfl,rfl⟩;obtain rfl|rfl|rfl:i=0\/i=1\/i=2:=by omega
 ·obtain ⟨G1,uA⟩: ∃G1,exI m c sp ends G g 0=G1:=⟨_,rfl⟩;have fk:uF G1:=by rw [←uA];exact MA
  have fW: ∀x∈G1,(x.lo-(par+1))% 2=0:=by rw [←uA];exact hG.pr
  have xp:G1.length<=900000:=by have:=fk.len;omega
  have rA:max 1000001 (hnew (dH 0 G1))=1000001:=by have:=qM G1 0;omega
  rw [uA];have bi:decide (((0:Nat):Int)<2)=true:=by decide
  have xa:=Qf hp he hk.2 hc aT hw false;rw [←hk.1] at xa;have Fm:=zD m ends c (dK g.key) false;have BS:=k9 false;have hq:=(tC hp he hk.2 hc aT (fun _=>false)).1;have hlen:=hq.len;obtain ⟨cc,rS⟩: ∃cc,ct m ends c (dK g.key) false=cc:=⟨_,rfl⟩;rw [rS] at xa Fm BS
  repeat' (first|omega|(try apply ag);simp only [go_sem,sevalprocAttr,bi,rA]|apply ae<;>(intro h_;(try simp only [h_]);revert h_)|apply And.intro|with_reducible intro h_|trivial|simp only [go_sem,ah];omega)
  refine ⟨au.fn rfl xa ?_⟩
  repeat' (first|omega|(try apply ag);simp only [go_sem,sevalprocAttr,bi,rA]|apply ae<;>(intro h_;(try simp only [h_]);revert h_)|apply And.intro|with_reducible intro h_|trivial|simp only [go_sem,ah];omega)
  refine aR.intro (fun n' fr' H=> ∃(j:Nat) (mJ:Int),j<=cc-sp/\mJ=(g.lo+1)-2*(j:Int)/\n'=cc-sp-j/\fr'=[(41,I j),(40,I ((cc:Int)-sp)),(14, .ptr 1000006 0),(12, .str (pS (df m ends c (dK g.key) false))),(18,I ((0:Nat):Int)),(17, .agg [I 1,I 0,I 3,I 2,I 3,I 2,I 1,I 0]),(7, .rp (.lst [I g.lo,roI g.cs]) 0),(5, .rp (.lst [I ends.length,roI (aS m ends c),roI (c6 m ends c),roI (aE m ends c)]) 0),(1, .str g.key),(3,I sp),(4, .fn 111 [.ptr 1000003 0])]++lft fr1/\
   H=(1000006, .cells 137 (.lst [I mJ,roI (tsL j g.cs)]))::aM sd sn G1) ?_ ?_
  ·refine ⟨_,_,_,?_,0,g.lo+1,by omega,?_,rfl,rfl,rfl⟩
   ·refine PC (X:=[(1000005,_)]) (by omega) ?_ (Gi M8 ?_ (fun t ht=>?_) dx) ?_
    ·simp only [go_sem,sevalprocAttr]
    ·simp only [go_sem,sevalprocAttr,List.forall_mem_cons,ph,de,Option.isSome_some]
    ·simp only [fget]
     repeat rw [if_neg (by omega)]
    ·simp only [go_sem,sevalprocAttr,List.forall_mem_cons]
   ·omega
  rintro n' fr' H ⟨j,mJ,hj,wZ,rfl,rfl,rfl⟩;by_cases ug:j<cc-sp
  ·have bj:decide ((j:Int)<(cc:Int)-sp)=true:=by rw [decide_eq_true_eq];omega
   have BB:=OO mJ (tsL j g.cs) (by omega) (by rw [nR];omega) (xQ (by
    have h1:=wg g.cs j;have h2:2^j*mxN g.cs<=2^cc*mxN g.cs:=Nat.mul_le_mul_right _ (Nat.pow_le_pow_right (by omega) (by omega));omega))
   repeat' (first|omega|(try apply ag);simp only [go_sem,sevalprocAttr,bj]|apply ae<;>(intro h_;(try simp only [h_]);revert h_)|apply And.intro|with_reducible intro h_|trivial|simp only [go_sem,ah];omega)
   refine ⟨au.fn rfl BB ?_⟩
   repeat' (first|omega|(try apply ag);simp only [go_sem,sevalprocAttr,bj]|apply ae<;>(intro h_;(try simp only [h_]);revert h_)|apply And.intro|with_reducible intro h_|trivial|simp only [go_sem,ah];omega)
   refine ⟨_,_,_,?_,Wk.uD (A:=[(41,I ((j+1:Nat):Int)),(40,I ((cc:Int)-sp)),(14, .ptr 1000006 0),(12, .str (pS (df m ends c (dK g.key) false))),(18,I ((0:Nat):Int)),(17, .agg [I 1,I 0,I 3,I 2,I 3,I 2,I 1,I 0]),(7, .rp (.lst [I g.lo,roI g.cs]) 0),(5, .rp (.lst [I ends.length,roI (aS m ends c),roI (c6 m ends c),roI (aE m ends c)]) 0),(1, .str g.key),(3,I sp),(4, .fn 111 [.ptr 1000003 0])]) ?_ (fun t ht=>?_),j+1,mJ-2,by omega,by omega,rfl,rfl,rfl⟩
   ·omega
   ·simp only [go_sem,sevalprocAttr,List.forall_mem_cons]
   ·simp only [fget]
    repeat rw [if_neg (by omega)]
  ·obtain rfl:j=cc-sp:=by omega
   have wY:mJ=(g.lo+1)-2*((cc-sp:Nat):Int):=wZ;have bj:decide (((cc-sp:Nat):Int)<(cc:Int)-sp)=false:=by rw [decide_eq_false_iff_not];omega
   repeat' (first|omega|(try apply ag);simp only [go_sem,sevalprocAttr,bj]|apply ae<;>(intro h_;(try simp only [h_]);revert h_)|apply And.intro|with_reducible intro h_|trivial|simp only [go_sem,ah];omega)
   refine ⟨au.inline (Qu (fr1:=[(18,I ((0:Nat):Int)),(17, .agg [I 1,I 0,I 3,I 2,I 3,I 2,I 1,I 0]),(7, .rp (.lst [I g.lo,roI g.cs]) 0),(5, .rp (.lst [I ends.length,roI (aS m ends c),roI (c6 m ends c),roI (aE m ends c)]) 0),(1, .str g.key),(3,I sp),(4, .fn 111 [.ptr 1000003 0])]++lft fr1) sd sn G1 (pS (df m ends c (dK g.key) false)) mJ (tsL (cc-sp) g.cs) fk (fun x hx _=>by have:=fW x hx;omega) (by rw [nR];omega) ?_ (by rw [nR];omega) ?_ (GV (by simp) ?_ (Dg ?_ (fun t ht=>?_) dx) ?_) ?_)⟩
   ·have h1:=wg g.cs (cc-sp);have h2:2^(cc-sp)*mxN g.cs<=2^cc*mxN g.cs:=Nat.mul_le_mul_right _ (Nat.pow_le_pow_right (by omega) (by omega));omega
   ·rw [List.all_append,D3 dx];rfl
   ·rfl
   ·simp only [go_sem,sevalprocAttr,List.forall_mem_cons,de,Option.isSome_some]
   ·simp only [fget]
    repeat rw [if_neg (by omega)]
   ·intro i o rH;rw [hget,if_neg fun e=>by subst e;rw [Ag xp (by omega)] at rH;cases rH];exact rH
   ·have fQ:updE G1 (pS (df m ends c (dK g.key) false)) mJ (tsL (cc-sp) g.cs)=exI m c sp ends G g 1:=by
     rw [wY,←uA,←rS];rfl
    rw [fQ]
    repeat' (first|omega|(try apply ag);simp only [go_sem,sevalprocAttr,bj]|apply ae<;>(intro h_;(try simp only [h_]);revert h_)|apply And.intro|with_reducible intro h_|trivial|simp only [go_sem,ah];omega)
    refine ⟨_,_,_,?_,Wk.uD (A:=[(18,I ((1:Nat):Int)),(17, .agg [I 1,I 0,I 3,I 2,I 3,I 2,I 1,I 0]),(7, .rp (.lst [I g.lo,roI g.cs]) 0),(5, .rp (.lst [I ends.length,roI (aS m ends c),roI (c6 m ends c),roI (aE m ends c)]) 0),(1, .str g.key),(3,I sp),(4, .fn 111 [.ptr 1000003 0])]) ?_ (fun t ht=>?_),1,by omega,rfl,rfl,rfl⟩
    ·omega
    ·(simp only [go_sem,sevalprocAttr,List.forall_mem_cons])<;>rfl
    ·simp only [fget]
     repeat rw [if_neg (by omega)]
 ·obtain ⟨G1,uA⟩: ∃G1,exI m c sp ends G g 1=G1:=⟨_,rfl⟩;have oD:=(tC hp he hk.2 hc aT (fun _=>false)).1;have YY:=zD m ends c (dK g.key) false;have YH:=k9 false;have rb:=wg g.cs (ct m ends c (dK g.key) false-sp);have Yr:2^(ct m ends c (dK g.key) false-sp)*mxN g.cs<=2^ct m ends c (dK g.key) false*mxN g.cs:=Nat.mul_le_mul_right _ (Nat.pow_le_pow_right (by omega) (by omega))
  have wW:oe (aE m ends c).length (par+1) (R+200) (exI m c sp ends G g 1):=hG.db (by omega) oD (by omega) (by rw [nR];omega) (by rw [nR];omega);have fk:uF G1:=by
   rw [←uA];refine ⟨wW.nd,by have:=(G2 G (pS (df m ends c (dK g.key) false)) (g.lo+1-2*((ct m ends c (dK g.key) false-sp:Nat):Int)) (tsL (ct m ends c (dK g.key) false-sp) g.cs)).1;simp only [exI];omega,fun x hx=>by have:=wW.rg x hx;omega,fun x hx=>?_⟩;rcases GZ G hx with hx|rfl|⟨y,hy,_,rfl⟩
   ·have:=Mp x hx;omega
   ·dsimp only;omega
   ·have h1:=Mp y hy;have h2:=Rz y (g.lo+1-2*((ct m ends c (dK g.key) false-sp:Nat):Int)) (tsL (ct m ends c (dK g.key) false-sp) g.cs);omega
  have fW: ∀x∈G1,(x.lo-(par+1))% 2=0:=by rw [←uA];exact wW.pr
  have xp:G1.length<=900000:=by have:=fk.len;omega
  have rA:max 1000001 (hnew (dH 0 G1))=1000001:=by have:=qM G1 0;omega
  rw [uA];have bi:decide (((1:Nat):Int)<2)=true:=by decide
  have xa:=Qf hp he hk.2 hc aT hw true;rw [←hk.1] at xa;have Fm:=zD m ends c (dK g.key) true;have BS:=k9 true;have hq:=(tC hp he hk.2 hc aT (fun _=>true)).1;have hlen:=hq.len;obtain ⟨cc,rS⟩: ∃cc,ct m ends c (dK g.key) true=cc:=⟨_,rfl⟩;rw [rS] at xa Fm BS
  repeat' (first|omega|(try apply ag);simp only [go_sem,sevalprocAttr,bi,rA]|apply ae<;>(intro h_;(try simp only [h_]);revert h_)|apply And.intro|with_reducible intro h_|trivial|simp only [go_sem,ah];omega)
  refine ⟨au.fn rfl xa ?_⟩
  repeat' (first|omega|(try apply ag);simp only [go_sem,sevalprocAttr,bi,rA]|apply ae<;>(intro h_;(try simp only [h_]);revert h_)|apply And.intro|with_reducible intro h_|trivial|simp only [go_sem,ah];omega)
  refine aR.intro (fun n' fr' H=> ∃(j:Nat) (mJ:Int),j<=cc-sp/\mJ=(g.lo-1)-2*(j:Int)/\n'=cc-sp-j/\fr'=[(41,I j),(40,I ((cc:Int)-sp)),(14, .ptr 1000006 0),(12, .str (pS (df m ends c (dK g.key) true))),(18,I ((1:Nat):Int)),(17, .agg [I 1,I 0,I 3,I 2,I 3,I 2,I 1,I 0]),(7, .rp (.lst [I g.lo,roI g.cs]) 0),(5, .rp (.lst [I ends.length,roI (aS m ends c),roI (c6 m ends c),roI (aE m ends c)]) 0),(1, .str g.key),(3,I sp),(4, .fn 111 [.ptr 1000003 0])]++lft fr1/\
   H=(1000006, .cells 137 (.lst [I mJ,roI (tsL j g.cs)]))::aM sd sn G1) ?_ ?_
  ·refine ⟨_,_,_,?_,0,g.lo+1-2,by omega,?_,rfl,rfl,rfl⟩
   ·refine PC (X:=[(1000005,_)]) (by omega) ?_ (Gi M8 ?_ (fun t ht=>?_) dx) ?_
    ·simp only [go_sem,sevalprocAttr]
    ·simp only [go_sem,sevalprocAttr,List.forall_mem_cons,ph,de,Option.isSome_some]
    ·simp only [fget]
     repeat rw [if_neg (by omega)]
    ·simp only [go_sem,sevalprocAttr,List.forall_mem_cons]
   ·omega
  rintro n' fr' H ⟨j,mJ,hj,wZ,rfl,rfl,rfl⟩;by_cases ug:j<cc-sp
  ·have bj:decide ((j:Int)<(cc:Int)-sp)=true:=by rw [decide_eq_true_eq];omega
   have BB:=OO mJ (tsL j g.cs) (by omega) (by rw [nR];omega) (xQ (by
    have h1:=wg g.cs j;have h2:2^j*mxN g.cs<=2^cc*mxN g.cs:=Nat.mul_le_mul_right _ (Nat.pow_le_pow_right (by omega) (by omega));omega))
   repeat' (first|omega|(try apply ag);simp only [go_sem,sevalprocAttr,bj]|apply ae<;>(intro h_;(try simp only [h_]);revert h_)|apply And.intro|with_reducible intro h_|trivial|simp only [go_sem,ah];omega)
   refine ⟨au.fn rfl BB ?_⟩
   repeat' (first|omega|(try apply ag);simp only [go_sem,sevalprocAttr,bj]|apply ae<;>(intro h_;(try simp only [h_]);revert h_)|apply And.intro|with_reducible intro h_|trivial|simp only [go_sem,ah];omega)
   refine ⟨_,_,_,?_,Wk.uD (A:=[(41,I ((j+1:Nat):Int)),(40,I ((cc:Int)-sp)),(14, .ptr 1000006 0),(12, .str (pS (df m ends c (dK g.key) true))),(18,I ((1:Nat):Int)),(17, .agg [I 1,I 0,I 3,I 2,I 3,I 2,I 1,I 0]),(7, .rp (.lst [I g.lo,roI g.cs]) 0),(5, .rp (.lst [I ends.length,roI (aS m ends c),roI (c6 m ends c),roI (aE m ends c)]) 0),(1, .str g.key),(3,I sp),(4, .fn 111 [.ptr 1000003 0])]) ?_ (fun t ht=>?_),j+1,mJ-2,by omega,by omega,rfl,rfl,rfl⟩
   ·omega
   ·simp only [go_sem,sevalprocAttr,List.forall_mem_cons]
   ·simp only [fget]
    repeat rw [if_neg (by omega)]
  ·obtain rfl:j=cc-sp:=by omega
   have wY:mJ=(g.lo-1)-2*((cc-sp:Nat):Int):=wZ;have bj:decide (((cc-sp:Nat):Int)<(cc:Int)-sp)=false:=by rw [decide_eq_false_iff_not];omega
   repeat' (first|omega|(try apply ag);simp only [go_sem,sevalprocAttr,bj]|apply ae<;>(intro h_;(try simp only [h_]);revert h_)|apply And.intro|with_reducible intro h_|trivial|simp only [go_sem,ah];omega)
   refine ⟨au.inline (Qu (fr1:=[(18,I ((1:Nat):Int)),(17, .agg [I 1,I 0,I 3,I 2,I 3,I 2,I 1,I 0]),(7, .rp (.lst [I g.lo,roI g.cs]) 0),(5, .rp (.lst [I ends.length,roI (aS m ends c),roI (c6 m ends c),roI (aE m ends c)]) 0),(1, .str g.key),(3,I sp),(4, .fn 111 [.ptr 1000003 0])]++lft fr1) sd sn G1 (pS (df m ends c (dK g.key) true)) mJ (tsL (cc-sp) g.cs) fk (fun x hx _=>by have:=fW x hx;omega) (by rw [nR];omega) ?_ (by rw [nR];omega) ?_ (GV (by simp) ?_ (Dg ?_ (fun t ht=>?_) dx) ?_) ?_)⟩
   ·have h1:=wg g.cs (cc-sp);have h2:2^(cc-sp)*mxN g.cs<=2^cc*mxN g.cs:=Nat.mul_le_mul_right _ (Nat.pow_le_pow_right (by omega) (by omega));omega
   ·rw [List.all_append,D3 dx];rfl
   ·rfl
   ·simp only [go_sem,sevalprocAttr,List.forall_mem_cons,de,Option.isSome_some]
   ·simp only [fget]
    repeat rw [if_neg (by omega)]
   ·intro i o rH;rw [hget,if_neg fun e=>by subst e;rw [Ag xp (by omega)] at rH;cases rH];exact rH
   ·have fQ:updE G1 (pS (df m ends c (dK g.key) true)) mJ (tsL (cc-sp) g.cs)=exI m c sp ends G g 2:=by
     rw [wY,←uA,←rS];rfl
    rw [fQ]
    repeat' (first|omega|(try apply ag);simp only [go_sem,sevalprocAttr,bj]|apply ae<;>(intro h_;(try simp only [h_]);revert h_)|apply And.intro|with_reducible intro h_|trivial|simp only [go_sem,ah];omega)
    refine ⟨_,_,_,?_,Wk.uD (A:=[(18,I ((2:Nat):Int)),(17, .agg [I 1,I 0,I 3,I 2,I 3,I 2,I 1,I 0]),(7, .rp (.lst [I g.lo,roI g.cs]) 0),(5, .rp (.lst [I ends.length,roI (aS m ends c),roI (c6 m ends c),roI (aE m ends c)]) 0),(1, .str g.key),(3,I sp),(4, .fn 111 [.ptr 1000003 0])]) ?_ (fun t ht=>?_),2,by omega,rfl,rfl,rfl⟩
    ·omega
    ·(simp only [go_sem,sevalprocAttr,List.forall_mem_cons])<;>rfl
    ·simp only [fget]
     repeat rw [if_neg (by omega)]
 ·have bi:decide (((2:Nat):Int)<2)=false:=by decide
  repeat' (first|omega|(try apply ag);simp only [go_sem,sevalprocAttr,bi]|apply ae<;>(intro h_;(try simp only [h_]);revert h_)|apply And.intro|with_reducible intro h_|trivial|simp only [go_sem,ah];omega)
  all_goals exact hK
end
end Go.Proofs.YtmdjdekgakidhaaGreatDoor
