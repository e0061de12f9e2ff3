/- Layer 17: sweep's update in general; one state is expanded. -/
import Derived.Test.YtphjphpmfflfpaaGreatDoorZl
import Derived.Test.YtphjphpmfflfpaaGreatDoorSf1
namespace Go.Proofs.YtphjphpmfflfpaaGreatDoor
open Go Go.RowKit
set_option maxRecDepth 100000
set_option maxHeartbeats 8000000
set_option linter.unusedVariables false
set_option linter.unusedSimpArgs false
structure uU (G:List PE):Prop where
 nd:kE G
 len:G.length<900000
 rg: ∀g∈G,-100000<=g.lo/\g.lo+2*(g.cs.length:Int)<=100000
 mx: ∀g∈G,mxN g.cs<=1152921504606846976
theorem yf {cs:List Int} (h:mxN cs<=1152921504606846976) (i:Nat): -1152921504606846976<=cs.getD i 0/\cs.getD i 0<=1152921504606846976:=by
 have:=u5 cs i
 omega
theorem PL (sd:List PE) (sn:List Nat) (G:List PE) (s:ByteArray) (lo:Int) (cs:List Int) (hG:uU G) (hp: ∀g∈G,g.key=s->(g.lo-lo)% 2=0) (hr: -100000<=lo/\lo+2*(cs.length:Int)<=100000) (hm:mxN cs<=1152921504606846976) (h0:0<cs.length) {fr fr1:Fr} {H0:Hp} {K:AV->Fr->Hp->Prop} (c7:fr1.all (fun q=>s3 cL q.2)=true)
  (hw:Wk (frOf 0 [.str s,tpA lo cs, .ptr 1000003 0]++lft fr) H0 (frOf 0 [.str s,tpA lo cs, .ptr 1000003 0]++lft fr1) (aR sd sn G))
  (hK:K (.tup []) fr1 (aR sd sn (updE G s lo cs))):
  gu Tryz.prog 144 [.str s,tpA lo cs, .ptr 1000003 0] fr H0 K:=by
 by_cases hx: ∃g∈G,g.key=s
 ·obtain ⟨g,hg,rfl⟩:=hx;obtain ⟨j,bY,hj⟩:=List.mem_iff_getElem.1 hg;have dE:G[j]?=some g:=by rw [List.getElem?_eq_getElem bY,hj]
  have tg:=hG.rg g hg;have XZ:=hp g hg rfl;rw [O3 G hG.nd dE] at hK;obtain ⟨a,b,c6,h1,h2,h3⟩:=Ga (cs:=cs) XZ;rw [Gb a b _ c6 h1 h2 h3 rfl] at hK;by_cases hf:a=0/\b+cs.length<=g.cs.length
  ·obtain ⟨rfl,hb⟩:=hf;have e1:g.lo=c6:=by omega
   have e2:max (0+g.cs.length) (b+cs.length)=g.cs.length:=by omega
   rw [e2,Xa,←e1] at hK;rw [←e1] at h2;subst h2;exact TL sd sn G j b g cs (by have:=hG.len;omega) hG.nd dE hb (by omega) (by omega) (yf (hG.mx g hg)) (yf hm) c7 hw hK
  ·exact T5 sd sn G j a b _ c6 g lo cs (by have:=hG.len;omega) hG.nd dE h1 h2 h3 (by omega) (by omega) (by omega) (by omega) (by omega) (by omega) (yf (hG.mx g hg)) (yf hm) c7 hw hK
 ·have cH: ∀g∈G,g.key≠s:=fun g hg e=>hx ⟨g,hg,e⟩;rw [O4 G cH] at hK;exact TJ sd sn G s lo cs hG.len hG.nd cH (by omega) h0 c7 hw hK
section
variable {ok HF:Hp} (h: ∀k,(hget ok k).isSome=true->hget HF k=none)
include h
theorem yB (n:Nat): ∀(x:AV),s1 ok x=true->aN HF (n+1) x=x/\aT HF (n+1) x
 | .ptr k o,h1=>by simp only [aN,aT,h k h1];exact ⟨trivial,trivial⟩
 | .sl e k o l,h1=>by simp only [aN,aT,h k h1];exact ⟨trivial,trivial⟩
 | .mp k,h1=>⟨rfl,trivial⟩
 | .agg _,h1=>by cases h1
 | .tup _,h1=>by cases h1
 | .fn _ _,h1=>by cases h1
 | .any,_=>⟨rfl,trivial⟩
 | .int _ _,_=>⟨rfl,trivial⟩
 | .bool _,_=>⟨rfl,trivial⟩
 | .str _,_=>⟨rfl,trivial⟩
 | .nils,_=>⟨rfl,trivial⟩
 | .ro _ _ _,_=>⟨rfl,trivial⟩
 | .rp _ _,_=>⟨rfl,trivial⟩
omit h in
theorem zL {n:Nat} {xs:List AV} (h: ∀x∈xs,aN HF n x=x/\aT HF n x):xs.map (aN HF n)=xs/\ ∀x∈xs,aT HF n x:=by
 refine ⟨?_,fun x hx=>(h x hx).2⟩
 conv=>rhs;rw [←List.map_id xs]
 exact List.map_congr_left fun x hx=>(h x hx).1
theorem Hr (n:Nat): ∀(x:AV),s2 ok x=true->aN HF (n+2) x=x/\aT HF (n+2) x
 | .agg xs,h1=>by have:=zL (n:=n+1) fun y hy=>yB h n y (List.all_eq_true.1 h1 y hy);exact ⟨congrArg AV.agg this.1,this.2⟩
 | .tup _,h1=>by cases h1
 | .fn f xs,h1=>by have:=zL (n:=n+1) fun y hy=>yB h n y (List.all_eq_true.1 h1 y hy);exact ⟨congrArg (AV.fn f) this.1,this.2⟩
 | .ptr k o,h1=>yB h (n+1) (.ptr k o) h1
 | .sl e k o l,h1=>yB h (n+1) (.sl e k o l) h1
 | .mp k,_=>⟨rfl,trivial⟩
 | .any,_=>⟨rfl,trivial⟩
 | .int _ _,_=>⟨rfl,trivial⟩
 | .bool _,_=>⟨rfl,trivial⟩
 | .str _,_=>⟨rfl,trivial⟩
 | .nils,_=>⟨rfl,trivial⟩
 | .ro _ _ _,_=>⟨rfl,trivial⟩
 | .rp _ _,_=>⟨rfl,trivial⟩
theorem NZ (n:Nat): ∀(x:AV),s3 ok x=true->aN HF (n+3) x=x/\aT HF (n+3) x
 | .agg xs,h1=>by have:=zL (n:=n+2) fun y hy=>Hr h n y (List.all_eq_true.1 h1 y hy);exact ⟨congrArg AV.agg this.1,this.2⟩
 | .tup xs,h1=>by have:=zL (n:=n+2) fun y hy=>Hr h n y (List.all_eq_true.1 h1 y hy);exact ⟨congrArg AV.tup this.1,this.2⟩
 | .fn f xs,h1=>by have:=zL (n:=n+2) fun y hy=>Hr h n y (List.all_eq_true.1 h1 y hy);exact ⟨congrArg (AV.fn f) this.1,this.2⟩
 | .ptr k o,h1=>yB h (n+2) (.ptr k o) h1
 | .sl e k o l,h1=>yB h (n+2) (.sl e k o l) h1
 | .mp k,_=>⟨rfl,trivial⟩
 | .any,_=>⟨rfl,trivial⟩
 | .int _ _,_=>⟨rfl,trivial⟩
 | .bool _,_=>⟨rfl,trivial⟩
 | .str _,_=>⟨rfl,trivial⟩
 | .nils,_=>⟨rfl,trivial⟩
 | .ro _ _ _,_=>⟨rfl,trivial⟩
 | .rp _ _,_=>⟨rfl,trivial⟩
theorem GK: ∀{fr:Fr},fr.all (fun q=>s3 ok q.2)=true->yeb HF (lft fr)=True/\frzF HF (lft fr)=lft fr
 |[],_=>⟨rfl,rfl⟩
 |(t,x)::fr,hf=>by
  simp only [List.all_cons,Bool.and_eq_true] at hf;have h1:=NZ h 1 x hf.1;have h2:=GK hf.2;simp only [lft,yeb,frzF,h2.1,h2.2];exact ⟨by simp [h1.2],by rw [h1.1]⟩
theorem Nj: ∀{fr:Fr},fr.all (fun q=>s3 ok q.2)=true->yeb HF fr/\frzF HF fr=fr
 |[],_=>⟨trivial,rfl⟩
 |(t,x)::fr,hf=>by
  simp only [List.all_cons,Bool.and_eq_true] at hf;have h1:=NZ h 1 x hf.1;have h2:=Nj hf.2;simp only [yeb,frzF,h2.2];exact ⟨⟨h1.2,h2.1⟩,by rw [h1.1]⟩
end
theorem Q6 {HF:Hp} (h: ∀k,k<1000005->hget HF k=none) (k:Nat) (hk:(hget cL k).isSome=true):hget HF k=none:=h k (by have:=yE hk;omega)
section
variable {HF:Hp} (h: ∀k,k<1000005->hget HF k=none)
include h
theorem MP: ∀(G:List PE) (i:Nat),i+G.length<=900000->ydl HF (dC i G)=True/\cr HF (dC i G)=dC i G
 |[],_,_=>⟨rfl,rfl⟩
 |g::G,i,hl=>by
  simp only [List.length_cons] at hl
  have:=MP G (i+1) (by omega)
  simp only [dC,ydl,oy,cr,frzO,h (i+10) (by omega),this.1,this.2,and_self]
theorem Uk (sd:List PE) (sn:List Nat) (G:List PE) (hl:G.length<=900000):ydl HF (aR sd sn G)=True/\cr HF (aR sd sn G)=aR sd sn G:=by
 have h1:=MP h G 0 (by omega);have hv: ∀k lo n,0<=k->k<0+G.length->aN HF 4 (.agg [I lo, .sl 1 (k+10) 0 n])= .agg [I lo, .sl 1 (k+10) 0 n]:=fun k lo n _ hk=>by
  simp only [aN,List.map_cons,List.map_nil,h (k+10) (by omega)]
 have hD:(dV 0 sd).map (fun q=>(q.1,q.2.1,aN HF 4 q.2.2))=dV 0 sd:=by
  conv=>rhs;rw [←List.map_id (dV 0 sd)]
  exact List.map_congr_left fun q hq=>by obtain ⟨k,g,_,rfl⟩:=oz _ _ _ hq;rfl
 constructor
 ·simp only [ydl,oy,h1.1,and_true,true_and,eq_iff_iff,iff_true];refine ⟨fun x hx=>?_,fun q hq=>?_,fun q hq=>?_,fun x hx=>?_⟩
  ·simp only [List.mem_cons,List.not_mem_nil,or_false] at hx;subst hx;trivial
  ·obtain ⟨k,g,hk,rfl⟩:=DZ _ _ _ hq;have bJ:=(List.getElem?_eq_some_iff.1 hk).1;simp only [aT,List.forall_mem_cons,h (0+k+10) (by omega)];exact ⟨trivial,trivial,by simp⟩
  ·obtain ⟨k,g,hk,rfl⟩:=oz _ _ _ hq;simp only [aT,List.forall_mem_cons];exact ⟨trivial,trivial,by simp⟩
  ·simp only [List.mem_cons,List.not_mem_nil,or_false] at hx;rcases hx with rfl|rfl<;>trivial
 ·simp only [cr,frzO,h 1000004 (by omega),h 1000003 (by omega),h 1000002 (by omega),h 2 (by omega),h 1 (by omega),h 1000000 (by omega),h1.2,D1 G 0 hv,hD,List.map_cons,List.map_nil];rfl
end
theorem Ax {sd:List PE} {sn:List Nat} {G:List PE} (hl:G.length<=900000) {k:Nat} (hk:1000005<=k):hget (aR sd sn G) k=none:=by
 simp only [hget]
 repeat rw [if_neg (by omega)]
 exact Od (.inr (by omega))
theorem yr {sd:List PE} {sn:List Nat} {G:List PE} (k:Nat) (h:(hget cL k).isSome=true):(hget (aR sd sn G) k).isSome=true:=by
 rcases yE h with e|e|e|e|e<;>subst e<;>rfl
theorem En: ∀{fr:Fr},fr.all (fun q=>s3 cL q.2)=true->(lft fr).all (fun q=>s3 cL q.2)=true
 |[],_=>rfl
 |(t,x)::fr,h=>by
  simp only [List.all_cons,Bool.and_eq_true] at h;simp only [lft,List.all_cons,Bool.and_eq_true];exact ⟨h.1,En h.2⟩
theorem GJ {ok:Hp} (ct: ∀k,(hget cL k).isSome=true->(hget ok k).isSome=true) {F A fr1:Fr} (hA: ∀q∈A,fget F q.1=q.2/\q.1<1000000/\s3 ok q.2=true) (hl: ∀t,1000000<=t->fget F t=fget (lft fr1) t) (c7:fr1.all (fun q=>s3 cL q.2)=true) (t:Nat):fget (A++lft fr1) t= .any\/(fget (A++lft fr1) t=fget F t/\s3 ok (fget (A++lft fr1) t)=true):=by
 induction A with
 |nil=>
  rw [List.nil_append];rcases Nat.lt_or_ge t 1000000 with h|h
  ·left;rw [s7,if_neg (by omega)]
  ·rcases DP (En c7) t with g|g
   ·exact .inl g
   ·exact .inr ⟨(hl t h).symm,sV ct _ g⟩
 |cons q A ih=>
  obtain ⟨s,x⟩:=q;rw [List.cons_append];simp only [fget]
  split
  ·rename_i e;subst e
   have:=hA (s,x) (List.mem_cons_self ..)
   exact .inr ⟨this.1.symm,this.2.2⟩
  ·exact ih fun q hq=>hA q (List.mem_cons_of_mem _ hq)
theorem Dx {F A fr1:Fr} (hA: ∀q∈A,fget F q.1=q.2/\q.1<1000000/\s3 cL q.2=true) (hl: ∀t,1000000<=t->fget F t=fget (lft fr1) t) (c7:fr1.all (fun q=>s3 cL q.2)=true) (t:Nat):fget (A++lft fr1) t= .any\/(fget (A++lft fr1) t=fget F t/\s3 cL (fget (A++lft fr1) t)=true):=GJ (fun _ h=>h) hA hl c7 t
def pJ:Hp:=(1000006, .gone)::cL
theorem MO (k:Nat) (h:(hget cL k).isSome=true):(hget pJ k).isSome=true:=by
 rcases yE h with e|e|e|e|e<;>subst e<;>rfl
theorem O2 {sd:List PE} {sn:List Nat} {G:List PE} (hG:G.length<=900000) {F fr':Fr} {o:AObj} {X:Hp} (ho:sO cL o=true) (hF: ∀t,fget fr' t= .any\/(fget fr' t=fget F t/\s3 pJ (fget fr' t)=true)) (hX: ∀q∈X,1000005<=q.1):Wk F ((1000006,o)::(X++aR sd sn G)) fr' ((1000006,o)::aR sd sn G):=by
 have hm: ∀k,(hget pJ k).isSome=true->(hget ((1000006,o)::aR sd sn G) k).isSome=true:=fun k hk=>by
  simp only [pJ,hget] at hk
  split at hk
  ·rename_i e;subst e;rfl
  ·rename_i e
   rw [hget,if_neg e];exact yr k hk
 have kX: ∀k,(hget (aR sd sn G) k).isSome=true->(hget ((1000006,o)::aR sd sn G) k).isSome=true:=fun k hk=>by
  rw [hget];split
  ·rfl
  ·exact hk
 have YG: ∀(X:Hp) (i:Nat),(∀q∈X,1000005<=q.1)->i<1000005->hget (X++aR sd sn G) i=hget (aR sd sn G) i:=fun X i=>by
  induction X with
  |nil=>exact fun _ _=>rfl
  |cons q X ih=>
   obtain ⟨j,a⟩:=q;intro h hi
   have:=h (j,a) (List.mem_cons_self ..)
   rw [List.cons_append,hget,if_neg (by simp only at this;omega),ih (fun q hq=>h q (List.mem_cons_of_mem _ hq)) hi]
 have B4: ∀o',sO (aR sd sn G) o'=true->sO ((1000006,o)::aR sd sn G) o'=true:=fun o' h=>by
  cases o' with
  |gone=>exact h
  |cells t c=>
   cases c with
   |ints l=>rfl
   |bools l=>rfl
   |lst l=>exact List.all_eq_true.2 fun x hx=>sV kX x (List.all_eq_true.1 h x hx)
  |gmap t ck l=>exact List.all_eq_true.2 fun x hx=>sV kX _ (List.all_eq_true.1 h x hx)
  |iter mid s sn la=>exact kX _ h
  |imap t l=>exact List.all_eq_true.2 fun x hx=>sV kX _ (List.all_eq_true.1 h x hx)
  |fmap t c=>rfl
 refine Wk.tU (fun t=>(hF t).imp id fun h=>⟨h.1,sV hm _ h.2⟩) fun i o' h=>?_;rw [hget] at h⊢
 split at h
 ·rename_i e;subst e
  cases h;rw [if_pos rfl];refine ⟨rfl,?_⟩;cases o with
  |gone=>rfl
  |cells t c=>
   cases c with
   |ints l=>rfl
   |bools l=>rfl
   |lst l=>exact List.all_eq_true.2 fun x hx=>sV (fun k hk=>kX k (yr k hk)) x (List.all_eq_true.1 ho x hx)
  |gmap t ck l=>exact List.all_eq_true.2 fun x hx=>sV (fun k hk=>kX k (yr k hk)) _ (List.all_eq_true.1 ho x hx)
  |iter mid s sn la=>exact kX _ (yr _ ho)
  |imap t l=>exact List.all_eq_true.2 fun x hx=>sV (fun k hk=>kX k (yr k hk)) _ (List.all_eq_true.1 ho x hx)
  |fmap t c=>rfl
 ·rename_i e
  have hi:i<1000005:=by
   rcases Nat.lt_or_ge i 1000005 with h9|h9
   ·exact h9
   ·rw [Ax hG h9] at h;cases h
  rw [if_neg e,YG X i hX hi];exact ⟨h,B4 o' (Gg sd sn G i o' h)⟩
theorem Hq {sd:List PE} {sn:List Nat} {G:List PE} {F fr':Fr} {H0:Hp} (hF: ∀t,fget fr' t= .any\/(fget fr' t=fget F t/\s3 cL (fget fr' t)=true)) (hH: ∀i o,hget (aR sd sn G) i=some o->hget H0 i=some o):Wk F H0 fr' (aR sd sn G):=
 Wk.tU (fun t=>(hF t).imp id fun h=>⟨h.1,sV yr _ h.2⟩) fun i o h=>⟨hH i o h,Gg sd sn G i o h⟩
theorem WI (xs:List AV) (fr fr':Fr) (hx:xs.length<=1000) (hs:xs.all (s3 cL)=true) (h: ∀t,fget fr' t= .any\/(fget fr' t=fget fr t/\s3 cL (fget fr' t)=true)): ∀t,fget (frOf 0 xs++lft fr') t= .any\/(fget (frOf 0 xs++lft fr') t=fget (frOf 0 xs++lft fr) t/\s3 cL (fget (frOf 0 xs++lft fr') t)=true):=by
 have key: ∀(xs:List AV) (k:Nat),xs.all (s3 cL)=true-> ∀t,fget (frOf k xs++lft fr') t= .any\/(fget (frOf k xs++lft fr') t=fget (frOf k xs++lft fr) t/\s3 cL (fget (frOf k xs++lft fr') t)=true):=by
  intro xs
  induction xs with
  |nil=>
   intro k _ t;simp only [frOf,List.nil_append,s7]
   split
   ·exact h _
   ·exact .inl rfl
  |cons x xs ih=>
   intro k hs t;simp only [List.all_cons,Bool.and_eq_true] at hs;simp only [frOf,List.cons_append,fget]
   split
   ·exact .inr ⟨rfl,hs.1⟩
   ·exact ih (k+1) hs.2 t
 exact key xs 0 hs
theorem Ho {sd:List PE} {sn:List Nat} {G:List PE} {xs:List AV} {fr fr':Fr} {H0:Hp} (hx:xs.length<=1000) (hs:xs.all (s3 cL)=true) (h: ∀t,fget fr' t= .any\/(fget fr' t=fget fr t/\s3 cL (fget fr' t)=true)) (hH: ∀i o,hget (aR sd sn G) i=some o->hget H0 i=some o):Wk (frOf 0 xs++lft fr) H0 (frOf 0 xs++lft fr') (aR sd sn G):=
 Hq (WI xs fr fr' hx hs h) hH
theorem Vz {sd:List PE} {sn:List Nat} {G:List PE} (hG:G.length<=900000) {F A fr1:Fr} {o1 o2:AObj} (c7:fr1.all (fun q=>s3 cL q.2)=true) (KV:oy [(1000005,o1),(1000006,o2)] o1) (nH:oy [(1000005,o1),(1000006,o2)] o2) (h1:yeb [(1000005,o1),(1000006,o2)] F)
  (hA: ∀q∈A,aN [(1000005,o1),(1000006,o2)] 4 (fget F q.1)=q.2/\q.1<1000000/\s3 cL q.2=true) (hl: ∀t,1000000<=t->fget F t=fget (lft fr1) t):Wk F ((1000006,o2)::(1000005,o1)::aR sd sn G) (A++lft fr1) (aR sd sn G):=by
 have pg: ∀k,k<1000005->hget [(1000005,o1),(1000006,o2)] k=none:=fun k hk=>by
  simp only [hget];rw [if_neg (by omega),if_neg (by omega)]
 have e1:=GK (Q6 pg) c7;have e2:=Uk pg sd sn G hG;have h2:ydl [(1000005,o1),(1000006,o2)] ((1000006,o2)::(1000005,o1)::aR sd sn G):=by
  simp only [ydl] at e2⊢;exact ⟨nH,KV,by rw [e2.1];trivial⟩
 refine (Wk.kB (H:=(1000006,o2)::(1000005,o1)::aR sd sn G) [1000005,1000006] h1 h2 rfl rfl).trans ?_;change Wk (frzF [(1000005,o1),(1000006,o2)] F) (cr [(1000005,o1),(1000006,o2)] ((1000006,o2)::(1000005,o1)::aR sd sn G)) _ _;refine Hq (Dx (fun q hq=>?_) (fun t ht=>?_) c7) fun i o hi=>?_
 ·have:=hA q hq
  rw [AW];exact this
 ·rw [AW,hl t ht,←AW,e1.2]
 ·rw [cr,cr,e2.2];have aw: ∀k,1000005<=k->k≠i:=fun k hk e=>by subst e;rw [Ax hG hk] at hi;cases hi
  simp only [hget];rw [if_neg (aw _ (by omega)),if_neg (aw _ (by omega))];exact hi
abbrev xQ (m ends:List Int) (c:Nat):AV:= .agg [I ends.length,roI (aU m ends c),roI (cC m ends c),roI (aG m ends c)]
def exI (m:List Int) (c sp:Nat) (ends:List Int) (G:List PE) (g:PE):Nat->List PE
 |0=>G
 |1=>updE G (pS (cO m ends c (dK g.key) false)) (g.lo+1-2*((b7 m ends c (dK g.key) false-sp:Nat):Int)) (tsL (b7 m ends c (dK g.key) false-sp) g.cs)
 |_=>qN m c sp ends G g
section
variable {m:List Int} {n:Nat} {P:List Nat} {ends:List Int} {c:Nat} (hp:bd m n) (he:qT m n P ends) (hc:c<n) (aV:c∉P) (hw:ends.length<=90) (mi:(aG m ends c).length<=90)
include hp he hc aV hw mi
theorem Ty (sd:List PE) (sn:List Nat) (G:List PE) (g:PE) (sp:Nat) (dT:sp<=1) {par R:Int} (hk:g.key=pS (dK g.key)/\nA (dK g.key) ends.length) (Ca:(g.lo-par)% 2=0) (tg: -R<=g.lo/\g.lo+2*(g.cs.length:Int)<=R) (h0:0<g.cs.length) (hR:R<=90000)
  (hG:qf (aG m ends c).length (par+1) (R+200) G) (SF:G.length<800000) (LV: ∀x∈G,mxN x.cs<=1125899906842624) (kX: ∀b,2^b7 m ends c (dK g.key) b*mxN g.cs<=1125899906842624) {fr fr1:Fr} {H0:Hp} {K:AV->Fr->Hp->Prop} (c7:fr1.all (fun q=>s3 cL q.2)=true)
  (Ky:Wk (frOf 0 [xQ m ends c, .str g.key,tpA g.lo g.cs,I sp, .fn 144 [.ptr 1000003 0]]++lft fr) H0 (frOf 0 [xQ m ends c, .str g.key,tpA g.lo g.cs,I sp, .fn 144 [.ptr 1000003 0]]++lft fr1) (aR sd sn G))
  (hK:K (.tup []) fr1 (aR sd sn (qN m c sp ends G g))):
  gu Tryz.prog 146 [xQ m ends c, .str g.key,tpA g.lo g.cs,I sp, .fn 144 [.ptr 1000003 0]] fr H0 K:=by
 have js:max 1000001 (hnew (dC 0 G))=1000001:=by have:=qW G 0;omega
 refine gu.intro [] Tryz.func146 rfl rfl (by decide) (by simp [Tryz.ntmps146]) ?_;rw [Tryz.ntmps146];refine gq.wk Ky ?_;have L9:uU G:=⟨hG.nd,by omega,fun x hx=>by have:=hG.rg x hx;omega,fun x hx=>by have:=LV x hx;omega⟩
 repeat' (first|omega|(try apply aj);simp only [go_sem,sevalprocAttr,js]|apply ag<;>(intro h_;(try simp only [h_]);revert h_)|apply ah|apply ai|apply ae|apply And.intro|with_reducible intro h_|trivial|simp only [go_sem,ak];omega)
 refine dM.sG (a:=1) (b:=0) (c:=3) (d:=2) (e:=3) rfl rfl (by simp only [go_sem,sevalprocAttr]) (by simp only [go_sem,sevalprocAttr]) (by simp only [go_sem,sevalprocAttr]) rfl rfl rfl rfl ?_
 repeat' (first|omega|(try apply aj);simp only [go_sem,sevalprocAttr,js]|apply ag<;>(intro h_;(try simp only [h_]);revert h_)|apply ah|apply ai|apply ae|apply And.intro|with_reducible intro h_|trivial|simp only [go_sem,ak];omega)
 refine dM.sG (a:=3) (b:=2) (c:=1) (d:=0) (e:=3) rfl rfl (by simp only [go_sem,sevalprocAttr]) (by simp only [go_sem,sevalprocAttr]) (by simp only [go_sem,sevalprocAttr]) rfl rfl rfl rfl ?_
 repeat' (first|omega|(try apply aj);simp only [go_sem,sevalprocAttr,js]|apply ag<;>(intro h_;(try simp only [h_]);revert h_)|apply ah|apply ai|apply ae|apply And.intro|with_reducible intro h_|trivial|simp only [go_sem,ak];omega)
 refine dM.xX (a:=1) (b:=0) (c:=3) (d:=2) (a':=3) (b':=2) (c':=1) (d':=0) (e:=183) rfl rfl (by simp only [go_sem,sevalprocAttr]) (by simp only [go_sem,sevalprocAttr]) (by simp only [go_sem,sevalprocAttr]) rfl rfl ?_
 repeat' (first|omega|(try apply aj);simp only [go_sem,sevalprocAttr,js]|apply ag<;>(intro h_;(try simp only [h_]);revert h_)|apply ah|apply ai|apply ae|apply And.intro|with_reducible intro h_|trivial|simp only [go_sem,ak];omega)
 refine bN.intro (fun n' fr' H=> ∃i:Nat,i<=2/\n'=2-i/\fr'=[(18,I i),(17, .agg [I 1,I 0,I 3,I 2,I 3,I 2,I 1,I 0]),(7, .rp (.lst [I g.lo,roI g.cs]) 0),(5, .rp (.lst [I ends.length,roI (aU m ends c),roI (cC m ends c),roI (aG m ends c)]) 0),(1, .str g.key),(3,I sp),(4, .fn 144 [.ptr 1000003 0])]++lft fr1/\
  H=aR sd sn (exI m c sp ends G g i)) ?_ ?_
 ·refine ⟨_,_,_,Vz (by omega) c7 ?_ ?_ ?_ ?_ (fun t ht=>?_),0,by omega,rfl,rfl,rfl⟩
  ·simp only [go_sem,sevalprocAttr,List.forall_mem_cons]
  ·simp only [go_sem,sevalprocAttr,List.forall_mem_cons]
  ·have pg: ∀(o1 o2:AObj) (k:Nat),k<1000005->hget [(1000005,o1),(1000006,o2)] k=none:=fun o1 o2 k hk=>by
    simp only [hget];rw [if_neg (by omega),if_neg (by omega)]
   have hl:=fun o1 o2=>(GK (Q6 (pg o1 o2)) c7).1;simp only [go_sem,sevalprocAttr,hl,yeb,aT]
  ·simp only [go_sem,sevalprocAttr,List.forall_mem_cons,aN,cL,Option.isSome_some]
  ·simp only [fget]
   repeat rw [if_neg (by omega)]
 rintro n' fr' H ⟨i,hi,rfl,rfl,rfl⟩;obtain rfl|rfl|rfl:i=0\/i=1\/i=2:=by omega
 ·obtain ⟨G1,uN⟩: ∃G1,exI m c sp ends G g 0=G1:=⟨_,rfl⟩;have ff:uU G1:=by rw [←uN];exact L9
  have iS: ∀x∈G1,(x.lo-(par+1))% 2=0:=by rw [←uN];exact hG.pr
  have xO:G1.length<=900000:=by have:=ff.len;omega
  have rR:max 1000001 (hnew (dC 0 G1))=1000001:=by have:=qW G1 0;omega
  rw [uN];have bi:decide (((0:Nat):Int)<2)=true:=by decide
  have xz:=PG hp he hk.2 hc aV hw false;rw [←hk.1] at xz;have FD:=zT m ends c (dK g.key) false;have K7:=kX false;have hq:=(tN hp he hk.2 hc aV (fun _=>false)).1;have hlen:=hq.len;obtain ⟨cc,sr⟩: ∃cc,b7 m ends c (dK g.key) false=cc:=⟨_,rfl⟩;rw [sr] at xz FD K7
  repeat' (first|omega|(try apply aj);simp only [go_sem,sevalprocAttr,bi,rR]|apply ag<;>(intro h_;(try simp only [h_]);revert h_)|apply ah|apply ai|apply ae|apply And.intro|with_reducible intro h_|trivial|simp only [go_sem,ak];omega)
  refine ⟨az.fn rfl xz ?_⟩
  repeat' (first|omega|(try apply aj);simp only [go_sem,sevalprocAttr,bi,rR]|apply ag<;>(intro h_;(try simp only [h_]);revert h_)|apply ah|apply ai|apply ae|apply And.intro|with_reducible intro h_|trivial|simp only [go_sem,ak];omega)
  refine bN.intro (fun n' fr' H=> ∃(j:Nat) (mS:Int),j<=cc-sp/\mS=(g.lo+1)-2*(j:Int)/\n'=cc-sp-j/\fr'=[(41,I j),(40,I ((cc:Int)-sp)),(14, .ptr 1000006 0),(12, .str (pS (cO m ends c (dK g.key) false))),(18,I ((0:Nat):Int)),(17, .agg [I 1,I 0,I 3,I 2,I 3,I 2,I 1,I 0]),(7, .rp (.lst [I g.lo,roI g.cs]) 0),(5, .rp (.lst [I ends.length,roI (aU m ends c),roI (cC m ends c),roI (aG m ends c)]) 0),(1, .str g.key),(3,I sp),(4, .fn 144 [.ptr 1000003 0])]++lft fr1/\
   H=(1000006, .cells 151 (.lst [I mS,roI (tsL j g.cs)]))::aR sd sn G1) ?_ ?_
  ·refine ⟨_,_,_,?_,0,g.lo+1,by omega,?_,rfl,rfl,rfl⟩
   ·refine O2 (X:=[(1000005,_)]) (by omega) ?_ (GJ MO ?_ (fun t ht=>?_) c7) ?_
    ·simp only [go_sem,sevalprocAttr]
    ·simp only [go_sem,sevalprocAttr,List.forall_mem_cons,pJ,cL,Option.isSome_some]
    ·simp only [fget]
     repeat rw [if_neg (by omega)]
    ·simp only [go_sem,sevalprocAttr,List.forall_mem_cons]
   ·omega
  rintro n' fr' H ⟨j,mS,hj,xr,rfl,rfl,rfl⟩;by_cases gj:j<cc-sp
  ·have bj:decide ((j:Int)<(cc:Int)-sp)=true:=by rw [decide_eq_true_eq];omega
   have KD:=OS mS (tsL j g.cs) (by omega) (by rw [nT];omega) (yf (by
    have h1:=wm g.cs j;have h2:2^j*mxN g.cs<=2^cc*mxN g.cs:=Nat.mul_le_mul_right _ (Nat.pow_le_pow_right (by omega) (by omega));omega))
   repeat' (first|omega|(try apply aj);simp only [go_sem,sevalprocAttr,bj]|apply ag<;>(intro h_;(try simp only [h_]);revert h_)|apply ah|apply ai|apply ae|apply And.intro|with_reducible intro h_|trivial|simp only [go_sem,ak];omega)
   refine ⟨az.fn rfl KD ?_⟩
   repeat' (first|omega|(try apply aj);simp only [go_sem,sevalprocAttr,bj]|apply ag<;>(intro h_;(try simp only [h_]);revert h_)|apply ah|apply ai|apply ae|apply And.intro|with_reducible intro h_|trivial|simp only [go_sem,ak];omega)
   refine ⟨_,_,_,?_,Wk.uR (A:=[(41,I ((j+1:Nat):Int)),(40,I ((cc:Int)-sp)),(14, .ptr 1000006 0),(12, .str (pS (cO m ends c (dK g.key) false))),(18,I ((0:Nat):Int)),(17, .agg [I 1,I 0,I 3,I 2,I 3,I 2,I 1,I 0]),(7, .rp (.lst [I g.lo,roI g.cs]) 0),(5, .rp (.lst [I ends.length,roI (aU m ends c),roI (cC m ends c),roI (aG m ends c)]) 0),(1, .str g.key),(3,I sp),(4, .fn 144 [.ptr 1000003 0])]) ?_ (fun t ht=>?_),j+1,mS-2,by omega,by omega,rfl,rfl,rfl⟩
   ·omega
   ·simp only [go_sem,sevalprocAttr,List.forall_mem_cons]
   ·simp only [fget]
    repeat rw [if_neg (by omega)]
  ·obtain rfl:j=cc-sp:=by omega
   have xq:mS=(g.lo+1)-2*((cc-sp:Nat):Int):=xr;have bj:decide (((cc-sp:Nat):Int)<(cc:Int)-sp)=false:=by rw [decide_eq_false_iff_not];omega
   repeat' (first|omega|(try apply aj);simp only [go_sem,sevalprocAttr,bj]|apply ag<;>(intro h_;(try simp only [h_]);revert h_)|apply ah|apply ai|apply ae|apply And.intro|with_reducible intro h_|trivial|simp only [go_sem,ak];omega)
   refine ⟨az.inline (PL (fr1:=[(18,I ((0:Nat):Int)),(17, .agg [I 1,I 0,I 3,I 2,I 3,I 2,I 1,I 0]),(7, .rp (.lst [I g.lo,roI g.cs]) 0),(5, .rp (.lst [I ends.length,roI (aU m ends c),roI (cC m ends c),roI (aG m ends c)]) 0),(1, .str g.key),(3,I sp),(4, .fn 144 [.ptr 1000003 0])]++lft fr1) sd sn G1 (pS (cO m ends c (dK g.key) false)) mS (tsL (cc-sp) g.cs) ff (fun x hx _=>by have:=iS x hx;omega) (by rw [nT];omega) ?_ (by rw [nT];omega) ?_ (Ho (by simp) ?_ (Dx ?_ (fun t ht=>?_) c7) ?_) ?_)⟩
   ·have h1:=wm g.cs (cc-sp);have h2:2^(cc-sp)*mxN g.cs<=2^cc*mxN g.cs:=Nat.mul_le_mul_right _ (Nat.pow_le_pow_right (by omega) (by omega));omega
   ·rw [List.all_append,En c7];rfl
   ·rfl
   ·simp only [go_sem,sevalprocAttr,List.forall_mem_cons,cL,Option.isSome_some]
   ·simp only [fget]
    repeat rw [if_neg (by omega)]
   ·intro i o lM;rw [hget,if_neg fun e=>by subst e;rw [Ax xO (by omega)] at lM;cases lM];exact lM
   ·have fL:updE G1 (pS (cO m ends c (dK g.key) false)) mS (tsL (cc-sp) g.cs)=exI m c sp ends G g 1:=by
     rw [xq,←uN,←sr];rfl
    rw [fL]
    repeat' (first|omega|(try apply aj);simp only [go_sem,sevalprocAttr,bj]|apply ag<;>(intro h_;(try simp only [h_]);revert h_)|apply ah|apply ai|apply ae|apply And.intro|with_reducible intro h_|trivial|simp only [go_sem,ak];omega)
    refine ⟨_,_,_,?_,Wk.uR (A:=[(18,I ((1:Nat):Int)),(17, .agg [I 1,I 0,I 3,I 2,I 3,I 2,I 1,I 0]),(7, .rp (.lst [I g.lo,roI g.cs]) 0),(5, .rp (.lst [I ends.length,roI (aU m ends c),roI (cC m ends c),roI (aG m ends c)]) 0),(1, .str g.key),(3,I sp),(4, .fn 144 [.ptr 1000003 0])]) ?_ (fun t ht=>?_),1,by omega,rfl,rfl,rfl⟩
    ·omega
    ·(simp only [go_sem,sevalprocAttr,List.forall_mem_cons])<;>rfl
    ·simp only [fget]
     repeat rw [if_neg (by omega)]
 ·obtain ⟨G1,uN⟩: ∃G1,exI m c sp ends G g 1=G1:=⟨_,rfl⟩;have oW:=(tN hp he hk.2 hc aV (fun _=>false)).1;have Yw:=zT m ends c (dK g.key) false;have X8:=kX false;have tf:=wm g.cs (b7 m ends c (dK g.key) false-sp);have XU:2^(b7 m ends c (dK g.key) false-sp)*mxN g.cs<=2^b7 m ends c (dK g.key) false*mxN g.cs:=Nat.mul_le_mul_right _ (Nat.pow_le_pow_right (by omega) (by omega))
  have xk:qf (aG m ends c).length (par+1) (R+200) (exI m c sp ends G g 1):=hG.cI (by omega) oW (by omega) (by rw [nT];omega) (by rw [nT];omega);have ff:uU G1:=by
   rw [←uN];refine ⟨xk.nd,by have:=(Hu G (pS (cO m ends c (dK g.key) false)) (g.lo+1-2*((b7 m ends c (dK g.key) false-sp:Nat):Int)) (tsL (b7 m ends c (dK g.key) false-sp) g.cs)).1;simp only [exI];omega,fun x hx=>by have:=xk.rg x hx;omega,fun x hx=>?_⟩;rcases Ht G hx with hx|rfl|⟨y,hy,_,rfl⟩
   ·have:=LV x hx;omega
   ·dsimp only;omega
   ·have h1:=LV y hy;have h2:=Rc y (g.lo+1-2*((b7 m ends c (dK g.key) false-sp:Nat):Int)) (tsL (b7 m ends c (dK g.key) false-sp) g.cs);omega
  have iS: ∀x∈G1,(x.lo-(par+1))% 2=0:=by rw [←uN];exact xk.pr
  have xO:G1.length<=900000:=by have:=ff.len;omega
  have rR:max 1000001 (hnew (dC 0 G1))=1000001:=by have:=qW G1 0;omega
  rw [uN];have bi:decide (((1:Nat):Int)<2)=true:=by decide
  have xz:=PG hp he hk.2 hc aV hw true;rw [←hk.1] at xz;have FD:=zT m ends c (dK g.key) true;have K7:=kX true;have hq:=(tN hp he hk.2 hc aV (fun _=>true)).1;have hlen:=hq.len;obtain ⟨cc,sr⟩: ∃cc,b7 m ends c (dK g.key) true=cc:=⟨_,rfl⟩;rw [sr] at xz FD K7
  repeat' (first|omega|(try apply aj);simp only [go_sem,sevalprocAttr,bi,rR]|apply ag<;>(intro h_;(try simp only [h_]);revert h_)|apply ah|apply ai|apply ae|apply And.intro|with_reducible intro h_|trivial|simp only [go_sem,ak];omega)
  refine ⟨az.fn rfl xz ?_⟩
  repeat' (first|omega|(try apply aj);simp only [go_sem,sevalprocAttr,bi,rR]|apply ag<;>(intro h_;(try simp only [h_]);revert h_)|apply ah|apply ai|apply ae|apply And.intro|with_reducible intro h_|trivial|simp only [go_sem,ak];omega)
  refine bN.intro (fun n' fr' H=> ∃(j:Nat) (mS:Int),j<=cc-sp/\mS=(g.lo-1)-2*(j:Int)/\n'=cc-sp-j/\fr'=[(41,I j),(40,I ((cc:Int)-sp)),(14, .ptr 1000006 0),(12, .str (pS (cO m ends c (dK g.key) true))),(18,I ((1:Nat):Int)),(17, .agg [I 1,I 0,I 3,I 2,I 3,I 2,I 1,I 0]),(7, .rp (.lst [I g.lo,roI g.cs]) 0),(5, .rp (.lst [I ends.length,roI (aU m ends c),roI (cC m ends c),roI (aG m ends c)]) 0),(1, .str g.key),(3,I sp),(4, .fn 144 [.ptr 1000003 0])]++lft fr1/\
   H=(1000006, .cells 151 (.lst [I mS,roI (tsL j g.cs)]))::aR sd sn G1) ?_ ?_
  ·refine ⟨_,_,_,?_,0,g.lo+1-2,by omega,?_,rfl,rfl,rfl⟩
   ·refine O2 (X:=[(1000005,_)]) (by omega) ?_ (GJ MO ?_ (fun t ht=>?_) c7) ?_
    ·simp only [go_sem,sevalprocAttr]
    ·simp only [go_sem,sevalprocAttr,List.forall_mem_cons,pJ,cL,Option.isSome_some]
    ·simp only [fget]
     repeat rw [if_neg (by omega)]
    ·simp only [go_sem,sevalprocAttr,List.forall_mem_cons]
   ·omega
  rintro n' fr' H ⟨j,mS,hj,xr,rfl,rfl,rfl⟩;by_cases gj:j<cc-sp
  ·have bj:decide ((j:Int)<(cc:Int)-sp)=true:=by rw [decide_eq_true_eq];omega
   have KD:=OS mS (tsL j g.cs) (by omega) (by rw [nT];omega) (yf (by
    have h1:=wm g.cs j;have h2:2^j*mxN g.cs<=2^cc*mxN g.cs:=Nat.mul_le_mul_right _ (Nat.pow_le_pow_right (by omega) (by omega));omega))
   repeat' (first|omega|(try apply aj);simp only [go_sem,sevalprocAttr,bj]|apply ag<;>(intro h_;(try simp only [h_]);revert h_)|apply ah|apply ai|apply ae|apply And.intro|with_reducible intro h_|trivial|simp only [go_sem,ak];omega)
   refine ⟨az.fn rfl KD ?_⟩
   repeat' (first|omega|(try apply aj);simp only [go_sem,sevalprocAttr,bj]|apply ag<;>(intro h_;(try simp only [h_]);revert h_)|apply ah|apply ai|apply ae|apply And.intro|with_reducible intro h_|trivial|simp only [go_sem,ak];omega)
   refine ⟨_,_,_,?_,Wk.uR (A:=[(41,I ((j+1:Nat):Int)),(40,I ((cc:Int)-sp)),(14, .ptr 1000006 0),(12, .str (pS (cO m ends c (dK g.key) true))),(18,I ((1:Nat):Int)),(17, .agg [I 1,I 0,I 3,I 2,I 3,I 2,I 1,I 0]),(7, .rp (.lst [I g.lo,roI g.cs]) 0),(5, .rp (.lst [I ends.length,roI (aU m ends c),roI (cC m ends c),roI (aG m ends c)]) 0),(1, .str g.key),(3,I sp),(4, .fn 144 [.ptr 1000003 0])]) ?_ (fun t ht=>?_),j+1,mS-2,by omega,by omega,rfl,rfl,rfl⟩
   ·omega
   ·simp only [go_sem,sevalprocAttr,List.forall_mem_cons]
   ·simp only [fget]
    repeat rw [if_neg (by omega)]
  ·obtain rfl:j=cc-sp:=by omega
   have xq:mS=(g.lo-1)-2*((cc-sp:Nat):Int):=xr;have bj:decide (((cc-sp:Nat):Int)<(cc:Int)-sp)=false:=by rw [decide_eq_false_iff_not];omega
   repeat' (first|omega|(try apply aj);simp only [go_sem,sevalprocAttr,bj]|apply ag<;>(intro h_;(try simp only [h_]);revert h_)|apply ah|apply ai|apply ae|apply And.intro|with_reducible intro h_|trivial|simp only [go_sem,ak];omega)
   refine ⟨az.inline (PL (fr1:=[(18,I ((1:Nat):Int)),(17, .agg [I 1,I 0,I 3,I 2,I 3,I 2,I 1,I 0]),(7, .rp (.lst [I g.lo,roI g.cs]) 0),(5, .rp (.lst [I ends.length,roI (aU m ends c),roI (cC m ends c),roI (aG m ends c)]) 0),(1, .str g.key),(3,I sp),(4, .fn 144 [.ptr 1000003 0])]++lft fr1) sd sn G1 (pS (cO m ends c (dK g.key) true)) mS (tsL (cc-sp) g.cs) ff (fun x hx _=>by have:=iS x hx;omega) (by rw [nT];omega) ?_ (by rw [nT];omega) ?_ (Ho (by simp) ?_ (Dx ?_ (fun t ht=>?_) c7) ?_) ?_)⟩
   ·have h1:=wm g.cs (cc-sp);have h2:2^(cc-sp)*mxN g.cs<=2^cc*mxN g.cs:=Nat.mul_le_mul_right _ (Nat.pow_le_pow_right (by omega) (by omega));omega
   ·rw [List.all_append,En c7];rfl
   ·rfl
   ·simp only [go_sem,sevalprocAttr,List.forall_mem_cons,cL,Option.isSome_some]
   ·simp only [fget]
    repeat rw [if_neg (by omega)]
   ·intro i o lM;rw [hget,if_neg fun e=>by subst e;rw [Ax xO (by omega)] at lM;cases lM];exact lM
   ·have fL:updE G1 (pS (cO m ends c (dK g.key) true)) mS (tsL (cc-sp) g.cs)=exI m c sp ends G g 2:=by
     rw [xq,←uN,←sr];rfl
    rw [fL]
    repeat' (first|omega|(try apply aj);simp only [go_sem,sevalprocAttr,bj]|apply ag<;>(intro h_;(try simp only [h_]);revert h_)|apply ah|apply ai|apply ae|apply And.intro|with_reducible intro h_|trivial|simp only [go_sem,ak];omega)
    refine ⟨_,_,_,?_,Wk.uR (A:=[(18,I ((2:Nat):Int)),(17, .agg [I 1,I 0,I 3,I 2,I 3,I 2,I 1,I 0]),(7, .rp (.lst [I g.lo,roI g.cs]) 0),(5, .rp (.lst [I ends.length,roI (aU m ends c),roI (cC m ends c),roI (aG m ends c)]) 0),(1, .str g.key),(3,I sp),(4, .fn 144 [.ptr 1000003 0])]) ?_ (fun t ht=>?_),2,by omega,rfl,rfl,rfl⟩
    ·omega
    ·(simp only [go_sem,sevalprocAttr,List.forall_mem_cons])<;>rfl
    ·simp only [fget]
     repeat rw [if_neg (by omega)]
 ·have bi:decide (((2:Nat):Int)<2)=false:=by decide
  repeat' (first|omega|(try apply aj);simp only [go_sem,sevalprocAttr,bi]|apply ag<;>(intro h_;(try simp only [h_]);revert h_)|apply ah|apply ai|apply ae|apply And.intro|with_reducible intro h_|trivial|simp only [go_sem,ak];omega)
  all_goals exact hK
end
end Go.Proofs.YtphjphpmfflfpaaGreatDoor
