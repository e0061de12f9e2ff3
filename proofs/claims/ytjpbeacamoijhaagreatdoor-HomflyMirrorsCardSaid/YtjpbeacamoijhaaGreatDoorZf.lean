/- Plain: sums of coefficients by exponents, in two parts; they are sorted. -/
import Derived.Test.YtjpbeacamoijhaaGreatDoorZe
import Derived.Test.YtjpbeacamoijhaaGreatDoorZc
import Derived.Test.YtjpbeacamoijhaaGreatDoorZb
namespace Go.Proofs.YtjpbeacamoijhaaGreatDoor
set_option linter.unusedSimpArgs false
set_option linter.unusedVariables false
abbrev aP:=List (Int×Int×Int)
def sP (q:Int×Int):Int:=q.1*33554432+q.2
def mPut:aP->Int->Int->aP
 |[],e,v=>[(e,v/33554432,v % 33554432)]
 |q::m,e,v=>if q.1=e then (e,q.2.1+v/33554432,q.2.2+v % 33554432)::m else q::mPut m e v
def uw:aP->Int->Option (Int×Int)
 |[],_=>none
 |q::m,e=>if q.1=e then some q.2 else uw m e
def mVal (m:aP) (e:Int):Int:=match uw m e with
 |some q=>sP q
 |none=>0
theorem Ji {e:Int} {v:Int×Int}: ∀{m:aP},uw m e=some v->(e,v)∈m
 |[],h=>by cases h
 |q::m,h=>by
  simp only [uw] at h
  split at h
  ·rename_i hq
   cases h;obtain ⟨q1,q2⟩:=q;dsimp only at hq;subst hq;exact List.mem_cons_self ..
  ·exact List.mem_cons_of_mem _ (Ji h)
theorem IK (e:Int):mVal [] e=0:=rfl
theorem Bm (q:Int×Int×Int) (m:aP) (e:Int):mVal (q::m) e=if q.1=e then sP q.2 else mVal m e:=by
 unfold mVal;simp only [uw];by_cases h:q.1=e
 ·rw [if_pos h,if_pos h]
 ·rw [if_neg h,if_neg h]
theorem LJ (e v x:Int): ∀m:aP,mVal (mPut m e v) x=mVal m x+if x=e then v else 0
 |[]=>by
  simp only [mPut,Bm,IK];by_cases h:x=e
  ·rw [if_pos h.symm,if_pos h];simp only [sP];omega
  ·rw [if_neg (fun h'=>h h'.symm),if_neg h];rfl
 |q::m=>by
  simp only [mPut];by_cases hq:q.1=e
  ·rw [if_pos hq,Bm,Bm];by_cases h:x=e
   ·rw [if_pos h.symm,if_pos (by omega),if_pos h];simp only [sP];omega
   ·rw [if_neg (fun h'=>h h'.symm),if_neg (by omega),if_neg h];omega
  ·rw [if_neg hq,Bm,Bm,LJ e v x m];by_cases h:q.1=x
   ·rw [if_pos h,if_pos h,if_neg (by omega)];omega
   ·rw [if_neg h,if_neg h]
theorem Qk {u:Int×Int×Int}: ∀{m:aP},(m.map (·.1)).Nodup->u∈m->mVal m u.1=sP u.2
 |[],_,h=>by cases h
 |q::m,hn,h=>by
  rw [List.map_cons] at hn;have yw:=List.nodup_cons.1 hn;rw [Bm];rcases List.mem_cons.1 h with rfl|h
  ·rw [if_pos rfl]
  ·rw [if_neg,Qk yw.2 h];intro e;exact yw.1 (by have:=List.mem_map_of_mem (f:=(·.1)) h;rw [←e] at this;exact this)
theorem IJ {q:Int×Int×Int} {e v:Int}: ∀{m:aP},q∈mPut m e v->q∈m\/q.1=e
 |[],h=>by simp only [mPut,List.mem_singleton] at h;exact .inr (by rw [h])
 |u::m,h=>by
  simp only [mPut] at h
  split at h
  ·rcases List.mem_cons.1 h with rfl|h
   ·exact .inr rfl
   ·exact .inl (List.mem_cons_of_mem _ h)
  ·rcases List.mem_cons.1 h with rfl|h
   ·exact .inl (List.mem_cons_self ..)
   ·exact (IJ h).imp (List.mem_cons_of_mem _) id
structure lj (m:aP) (k:Nat):Prop where
 nd:(m.map (·.1)).Nodup
 len:m.length<=k
 bn: ∀q∈m,(-(k*67108864:Int)<=q.2.1/\q.2.1<=k*67108864)/\0<=q.2.2/\q.2.2<=k*33554432
theorem lj.nil:lj [] 0:=⟨.nil,Nat.le_refl _,fun _ h=>by cases h⟩
theorem lj.mono {m:aP} {k k':Nat} (h:lj m k) (hk:k<=k'):lj m k':=⟨h.nd,Nat.le_trans h.len hk,fun q hq=>by have:=h.bn q hq;omega⟩
theorem lj.put {m:aP} {k:Nat} (e:Int) {v:Int} (h:lj m k) (hv: -1125899906842624<=v/\v<=1125899906842624):lj (mPut m e v) (k+1):=by
 obtain ⟨nd,hl,hb⟩:=h
 induction m generalizing k with
 |nil=>exact ⟨by simp [mPut],by simp [mPut],fun q hq=>by
  simp only [mPut,List.mem_singleton] at hq;subst hq;dsimp only;omega⟩
 |cons u m ih=>
  rw [List.map_cons] at nd;have Nd:=List.nodup_cons.1 nd;simp only [mPut];have hu:=hb u (List.mem_cons_self ..)
  split
  ·rename_i he
   refine ⟨?_,by simp only [List.length_cons] at hl⊢;omega,fun q hq=>?_⟩
   ·rw [List.map_cons,←he];exact nd
   ·rcases List.mem_cons.1 hq with rfl|hq
    ·dsimp only;omega
    ·have:=hb q (List.mem_cons_of_mem _ hq);omega
  ·rename_i he
   simp only [List.length_cons] at hl;have i2:=ih (k:=k) Nd.2 (by omega) (fun q hq=>hb q (List.mem_cons_of_mem _ hq));have hlen:(mPut m e v).length<=m.length+1:=by
    clear ih nd Nd hl hb hu i2
    induction m with
    |nil=>simp [mPut]
    |cons a m ih=>simp only [mPut];split<;>simp only [List.length_cons]<;>omega
   refine ⟨List.nodup_cons.2 ⟨fun hm=>?_,i2.nd⟩,by simp only [List.length_cons];omega,fun q hq=>?_⟩
   ·obtain ⟨q,q1,q2⟩:=List.mem_map.1 hm;rcases IJ q1 with q1|q1
    ·exact Nd.1 (by have:=List.mem_map_of_mem (f:=(·.1)) q1;rw [q2] at this;exact this)
    ·exact he (q2.symm.trans q1)
   ·rcases List.mem_cons.1 hq with rfl|hq
    ·omega
    ·exact i2.bn q hq
def fS (q:Int×Int×Int):List (Int×Int):=if sP q.2=0 then [] else [(q.1,sP q.2)]
def kg (m:aP) (sn:List Nat):List (Int×Int):=sn.flatMap fun b=>fS (m.getD b (0,0,0))
theorem y09 (m:aP) (sn:List Nat) (b:Nat):kg m (sn++[b])=kg m sn++fS (m.getD b (0,0,0)):=by simp [kg]
theorem LH (m:aP): ∀sn:List Nat,(kg m sn).length<=sn.length
 |[]=>Nat.le_refl _
 |b::sn=>by
  have:=LH m sn
  simp only [kg,List.flatMap_cons,List.length_append,List.length_cons] at this⊢
  have:(fS (m.getD b (0,0,0))).length<=1:=by unfold fS;split<;>simp
  omega
theorem y4p (m:aP):kg m (List.range m.length)=m.flatMap fS:=by
 have h:(List.range m.length).map (fun b=>m.getD b (0,0,0))=m:=by
  apply List.ext_getElem?;intro i;by_cases hi:i<m.length<;>simp [hi]
 conv=>rhs;rw [←h]
 rw [List.flatMap_map];rfl
theorem y1a (m:aP) {sn:List Nat} (h:sn.Perm (List.range m.length)):(kg m sn).Perm (m.flatMap fS):=by
 rw [←y4p];exact h.flatMap_right _
theorem y4q {p q:List (Int×Int)} (h:p.Perm q) (e:Int):cfL p e=cfL q e:=by
 induction h with
 |nil=>rfl
 |cons x _ ih=>simp only [cfL,ih]
 |swap x y l=>simp only [cfL];omega
 |trans _ _ h1 h2=>rw [h1,h2]
theorem Il: ∀m:aP,((m.flatMap fS).map (·.1)).Sublist (m.map (·.1))
 |[]=> .slnil
 |q::m=>by
  simp only [List.flatMap_cons,List.map_append,List.map_cons];unfold fS
  split
  ·exact (Il m).cons _
  ·exact (Il m).cons_cons _
theorem UT: ∀{m:aP},(m.map (·.1)).Nodup-> ∀e,cfL (m.flatMap fS) e=mVal m e
 |[],_,e=>rfl
 |q::m,h,e=>by
  rw [List.map_cons] at h;have h':=List.nodup_cons.1 h;have ih:=UT h'.2 e;rw [List.flatMap_cons,It,ih,Bm];unfold fS;by_cases hq:q.1=e
  ·rw [if_pos hq];have h0:mVal m e=0:=by
    rw [←ih];refine Se fun t ht he=>h'.1 ?_
    have:=(Il m).subset (List.mem_map_of_mem ht)
    rw [he,←hq] at this;exact this
   rw [h0]
   split
   ·rename_i hz;rw [hz];rfl
   ·simp only [cfL];rw [if_pos hq];omega
  ·rw [if_neg hq]
   split
   ·simp only [cfL];omega
   ·simp only [cfL];rw [if_neg hq];omega
theorem GY {m:aP} {t:Int×Int} (h:t∈m.flatMap fS):t.2≠0:=by
 obtain ⟨q,_,h2⟩:=List.mem_flatMap.1 h;unfold fS at h2
 split at h2
 ·cases h2
 ·rename_i hz
  rw [List.mem_singleton.1 h2];exact hz
theorem y1c {m:aP} (hm:(m.map (·.1)).Nodup) {sn:List Nat} (hs:sn.Perm (List.range m.length)) {r:List (Int×Int)} (hr:r.Perm (kg m sn)) (ho:r.Pairwise fun a b=>a.1<=b.1):dL r (mVal m):=by
 have hp:=hr.trans (y1a m hs);have hk:(r.map (·.1)).Nodup:=(hp.map (·.1)).nodup_iff.2 ((Il m).nodup hm);refine ⟨⟨?_,fun t ht=>GY (hp.mem_iff.1 ht)⟩,fun e=>by rw [y4q hp,UT hm]⟩;have h2:r.Pairwise fun a b=>a.1≠b.1:=by
  have:=List.pairwise_map.1 hk
  exact this
 exact (ho.and h2).imp fun ⟨a,b⟩=>by omega
def mAdd (c d:Int):aP->List (Int×Int)->aP
 |m,[]=>m
 |m,t::p=>mAdd c d (mPut m (d+t.1) (c*t.2)) p
theorem Mf (c d:Int) (t:Int×Int): ∀(p:List (Int×Int)) (m:aP),mAdd c d m (p++[t])=mPut (mAdd c d m p) (d+t.1) (c*t.2)
 |[],_=>rfl
 |u::p,m=>Mf c d t p _
theorem II (c d x:Int): ∀(p:List (Int×Int)) (m:aP),mVal (mAdd c d m p) x=mVal m x+c*cfL p (x-d)
 |[],m=>by simp [mAdd,cfL]
 |t::p,m=>by
  simp only [mAdd,cfL];rw [II c d x p,LJ];by_cases h:x=d+t.1
  ·rw [if_pos h,if_pos (by omega),Int.mul_add];omega
  ·rw [if_neg h,if_neg (by omega)];simp
theorem lj.add {c d:Int}: ∀{p:List (Int×Int)} {m:aP} {k:Nat},lj m k->(∀t∈p,-1125899906842624<=c*t.2/\c*t.2<=1125899906842624)->lj (mAdd c d m p) (k+p.length)
 |[],m,k,h,_=>h
 |t::p,m,k,h,hb=>by
  have ht:=hb t (List.mem_cons_self ..)
  have:=lj.add (c:=c) (d:=d) (h.put (d+t.1) (v:=c*t.2) ht) (fun u hu=>hb u (List.mem_cons_of_mem _ hu))
  simp only [mAdd,List.length_cons];exact this.mono (by omega)
def iM (q:List (Int×Int)):aP->List (Int×Int)->aP
 |m,[]=>m
 |m,s::p=>iM q (mAdd s.2 s.1 m q) p
theorem SB (q:List (Int×Int)) (s:Int×Int): ∀(p:List (Int×Int)) (m:aP),iM q m (p++[s])=mAdd s.2 s.1 (iM q m p) q
 |[],_=>rfl
 |u::p,m=>SB q s p _
theorem RC (q:List (Int×Int)) (x:Int): ∀(p:List (Int×Int)) (m:aP),mVal (iM q m p) x=mVal m x+cvL p (cfL q) x
 |[],m=>by simp [iM,cvL]
 |s::p,m=>by
  simp only [iM,cvL];rw [RC q x p,II];omega
theorem lj.mul {q:List (Int×Int)}: ∀{p:List (Int×Int)} {m:aP} {k:Nat},lj m k->(∀s∈p,∀t∈q,-1125899906842624<=s.2*t.2/\s.2*t.2<=1125899906842624)->lj (iM q m p) (k+p.length*q.length)
 |[],m,k,h,_=>by simpa [iM] using h
 |s::p,m,k,h,hb=>by
  have:=lj.mul (q:=q) (h.add (c:=s.2) (d:=s.1) (p:=q) (fun t ht=>hb s (List.mem_cons_self ..) t ht)) (p:=p) (fun u hu=>hb u (List.mem_cons_of_mem _ hu))
  simp only [iM,List.length_cons,Nat.succ_mul];exact this.mono (by omega)
theorem Qj (u v c d:Int) (e:Int): ∀p:List (Int×Int),cvL p (cfL [(u,c),(v,d)]) e=c*cfL p (e-u)+d*cfL p (e-v)
 |[]=>by simp [cvL,cfL]
 |t::p=>by
  simp only [cvL,cfL];have ih:=Qj u v c d e p;simp only [cfL] at ih;rw [ih,Int.mul_add,Int.mul_add,Int.mul_add];have e1:(t.2*if u=e-t.1 then c else 0)=c*if t.1=e-u then t.2 else 0:=by
   by_cases h:u=e-t.1
   ·rw [if_pos h,if_pos (by omega),Int.mul_comm]
   ·rw [if_neg h,if_neg (by omega)];simp
  have e2:(t.2*if v=e-t.1 then d else 0)=d*if t.1=e-v then t.2 else 0:=by
   by_cases h:v=e-t.1
   ·rw [if_pos h,if_pos (by omega),Int.mul_comm]
   ·rw [if_neg h,if_neg (by omega)];simp
  rw [Int.mul_add,e1,e2];omega
theorem Bt {sn:List Nat} {N:Nat} (hn:sn.Nodup) (hr: ∀i∈sn,i<N):sn.length<=N:=by
 have hp:(sn++(List.range N).filter fun i=> !sn.contains i).Perm (List.range N):=by
  refine (List.perm_ext_iff_of_nodup ?_ List.nodup_range).2 fun a=>?_
  ·rw [List.nodup_append];refine ⟨hn,List.nodup_range.filter _,fun a ha b hb h=>?_⟩;subst h;simp [ha] at hb
  ·by_cases h:a∈sn<;>simp [h];exact hr a h
 have:=hp.length_eq
 simp only [List.length_append,List.length_range] at this;omega
def sE (m:aP) (M:Int):Prop:= ∀q∈m,(-M<=aN q.1/\aN q.1<=M)/\ -M<=az q.1/\az q.1<=M
theorem sE.put {m:aP} {M e v:Int} (h:sE m M) (he:(-M<=aN e/\aN e<=M)/\ -M<=az e/\az e<=M):sE (mPut m e v) M:=fun q hq=>by
 rcases IJ hq with h1|h1
 ·exact h q h1
 ·rw [h1];exact he
theorem sE.add {c d M:Int}: ∀{p:List (Int×Int)} {m:aP},sE m M->(∀t∈p,(-M<=aN (d+t.1)/\aN (d+t.1)<=M)/\ -M<=az (d+t.1)/\az (d+t.1)<=M)->sE (mAdd c d m p) M
 |[],_,h,_=>h
 |t::p,m,h,hb=>sE.add (p:=p) (m:=mPut m (d+t.1) (c*t.2)) (h.put (hb t (List.mem_cons_self ..))) fun u hu=>hb u (List.mem_cons_of_mem _ hu)
theorem sE.mul {q:List (Int×Int)} {M:Int}: ∀{p:List (Int×Int)} {m:aP},sE m M->(∀s∈p,∀t∈q,(-M<=aN (s.1+t.1)/\aN (s.1+t.1)<=M)/\ -M<=az (s.1+t.1)/\az (s.1+t.1)<=M)->sE (iM q m p) M
 |[],_,h,_=>h
 |s::p,m,h,hb=>sE.mul (p:=p) (m:=mAdd s.2 s.1 m q) (h.add (hb s (List.mem_cons_self ..))) fun u hu=>hb u (List.mem_cons_of_mem _ hu)
theorem sE.len {m:aP} {M:Int} (h:sE m M) (hn:(m.map (·.1)).Nodup) (hM:M<=300):m.length<=1000000:=by
 have hr: ∀i∈m.map fun q=>(aN q.1*601+az q.1+180600).toNat,i<361201:=fun i hi=>by
  obtain ⟨q,hq,rfl⟩:=List.mem_map.1 hi
  have:=h q hq
  omega
 have hd:(m.map fun q=>(aN q.1*601+az q.1+180600).toNat).Nodup:=by
  rw [List.nodup_iff_pairwise_ne] at hn⊢;rw [List.pairwise_map] at hn⊢;refine hn.imp_of_mem fun {a b} ha hb lW he=>lW ?_;have h1:=h a ha;have h2:=h b hb;have h3:aN a.1=aN b.1/\az a.1=az b.1:=by omega
  rw [←qI a.1,←qI b.1,h3.1,h3.2]
 have:=Bt hd hr
 rw [List.length_map] at this;omega
open Go Go.RowKit
set_option maxRecDepth 100000
abbrev kE (e:Int):ByteArray:=dj (aN e) (az e)
theorem US {e e':Int}:kE e=kE e'↔e=e':=by
 refine Sq.trans ⟨fun h=>?_,fun h=>by rw [h];exact ⟨rfl,rfl⟩⟩;rw [←qI e,←qI e',h.1,h.2]
def gmL:Nat->aP->List (ByteArray×Nat×AV)
 |_,[]=>[]
 |i,q::m=>(kE q.1,i, .agg [I q.2.1,I q.2.2])::gmL (i+1) m
theorem Qi: ∀(i:Nat) (m:aP),(gmL i m).length=m.length
 |_,[]=>rfl
 |i,q::m=>by simp only [gmL,List.length_cons,Qi (i+1) m]
theorem K7 {q:ByteArray×Nat×AV}: ∀{i:Nat} {m:aP},q∈gmL i m-> ∃k u,m[k]?=some u/\q=(kE u.1,i+k, .agg [I u.2.1,I u.2.2])
 |_,[],h=>by cases h
 |i,u::m,h=>by
  rcases List.mem_cons.1 h with rfl|h
  ·exact ⟨0,u,rfl,rfl⟩
  ·obtain ⟨k,v,h1,rfl⟩:=K7 h;exact ⟨k+1,v,by simpa using h1,by rw [show i+1+k=i+(k+1) by omega]⟩
theorem UR: ∀(i:Nat) (m:aP) (k:Nat) (u:Int×Int×Int),m[k]?=some u->(kE u.1,i+k,AV.agg [I u.2.1,I u.2.2])∈gmL i m
 |_,[],k,u,h=>by simp at h
 |i,v::m,0,u,h=>by simp at h;subst h;exact List.mem_cons_self ..
 |i,v::m,k+1,u,h=>by
  have:=UR (i+1) m k u (by simpa using h)
  rw [show i+1+k=i+(k+1) by omega] at this;exact List.mem_cons_of_mem _ this
theorem SA: ∀(i:Nat) (m:aP) (k:Nat) (u:Int×Int×Int),m[k]?=some u->(gmL i m).find? (fun q=>q.2.1==i+k)=some (kE u.1,i+k,AV.agg [I u.2.1,I u.2.2])
 |_,[],k,u,h=>by simp at h
 |i,v::m,0,u,h=>by simp at h;subst h;simp [gmL]
 |i,v::m,k+1,u,h=>by
  have:=SA (i+1) m k u (by simpa using h)
  rw [show i+1+k=i+(k+1) by omega] at this;simp only [gmL,List.find?_cons];rw [show (i==i+(k+1))=false by simp];exact this
theorem LG {e h l:Int} (v:Int): ∀{m:aP} (i:Nat),uw m e=some (h,l)-> ∃b,nj (gmL i m) (kE e)=some (kE e,b, .agg [I h,I l])/\zR (gmL i m) (kE e) (.agg [I (h+v/33554432),I (l+v % 33554432)])=gmL i (mPut m e v)/\(mPut m e v).length=m.length
 |[],_,h=>by cases h
 |q::m,i,h=>by
  simp only [uw] at h;unfold nj;simp only [gmL,zR,mPut,List.find?_cons];by_cases hq:q.1=e
  ·rw [if_pos hq] at h;obtain ⟨q1,q2,q3⟩:=q;cases h;dsimp only at hq;subst hq;exact ⟨i,by rw [decide_eq_true (by rfl)],by rw [if_pos rfl,if_pos rfl];rfl,by rw [if_pos rfl];rfl⟩
  ·rw [if_neg hq] at h;have hk: ¬kE q.1=kE e:=fun h=>hq (US.1 h);obtain ⟨b,h1,h2,h3⟩:=LG v (i+1) h;unfold nj at h1;rw [decide_eq_false hk,if_neg hk,if_neg hq];exact ⟨b,h1,by rw [h2];rfl,by simp only [List.length_cons,h3]⟩
theorem Ex {e:Int} (v:Int): ∀{m:aP} (i:Nat),uw m e=none->nj (gmL i m) (kE e)=none/\gmL i m++[(kE e,i+m.length,AV.agg [I (v/33554432),I (v % 33554432)])]=gmL i (mPut m e v)/\(mPut m e v).length=m.length+1
 |[],i,_=>⟨rfl,rfl,rfl⟩
 |q::m,i,h=>by
  simp only [uw] at h;by_cases hq:q.1=e
  ·rw [if_pos hq] at h;cases h
  rw [if_neg hq] at h;have hk: ¬kE q.1=kE e:=fun h=>hq (US.1 h);obtain ⟨h1,h2,h3⟩:=Ex v (i+1) h;unfold nj at h1⊢;simp only [gmL,mPut,List.find?_cons];rw [decide_eq_false hk,if_neg hq];refine ⟨h1,?_,by simp only [List.length_cons,h3]⟩;rw [show i+(q::m).length=i+1+m.length by simp only [List.length_cons];omega,List.cons_append,h2];rfl
theorem sb (F:ByteArray×Nat×AV->Bool) (h: ∀e i a b,F (kE e,i, .agg [I a,I b])=true): ∀(i:Nat) (m:aP),(gmL i m).all F=true
 |_,[]=>rfl
 |i,q::m=>by simp only [gmL,List.all_cons,sb F h (i+1) m,Bool.and_true];exact h _ _ _ _
theorem A2 (H:Hp): ∀(i:Nat) (m:aP),((gmL i m).all fun q=>s3 H q.2.2)=true
 |_,[]=>rfl
 |i,q::m=>by simp only [gmL,List.all_cons,A2 H (i+1) m,Bool.and_true];rfl
theorem UQ: ∀(i:Nat) (m:aP),((gmL i m).all fun q=>p3 q.2.2)=true
 |_,[]=>rfl
 |i,q::m=>by simp only [gmL,List.all_cons,UQ (i+1) m,Bool.and_true];rfl
theorem qe (H:Hp) (t ck i:Nat) (m:aP):sO H (.gmap t ck (gmL i m))=true:=A2 H i m
end Go.Proofs.YtjpbeacamoijhaaGreatDoor
set_option linter.unusedSimpArgs false
set_option linter.unusedVariables false
namespace Go.Proofs.YtjpbeacamoijhaaGreatDoor
open Go Go.RowKit
set_option maxRecDepth 100000
section
variable {P:Program} {N:Nat} {fr:Fr} {H:Hp} {o:Oper}
theorem pK.Bz {ops:Array Oper} {rr:List Oper} {K:Fr->Hp->Prop} {t kt et id T ck:Nat} {x:Operand} {l:List (ByteArray×Nat×AV)} (ho:o.op= .call {callee:= .builtin .len,args:= #[x],argTypes:= #[t]}) (hd:dok o.dst N=true) (eG:tk P t= .map kt et)
  (hx:evA fr x= .mp id) (h1:hget H id=some (.gmap T ck l)) (h:awL P N ops rr (fput fr o.dst (I l.length)) H K):pK P N ops fr H K o rr:=by
 refine pK.JD ?_ ?_ ?_ ?_
 ·rw [ho];rfl
 ·rw [ho];simp only [quF,opF,lenF,eG]
 ·rw [ho];rfl
 unfold awX;rw [ho];refine ⟨rfl,fun B w0 Mx w ρ ac sU Q=>?_⟩;have ex:=(hx▸sU.ev x).dQ;obtain ⟨es,g1,g2,_⟩:=sU.objs id _ h1;have hl:(Builtin.len_ #[t] o.type #[ac.eval x]).run P w= .ok (.int .i64 l.length) w:=by
  rw [ex];simp [Builtin.len_,run_underlying (pO eG),getObj,Sem.run,g1,g2,goInt]
 have aT:(execOp ac.eval o).run P w= .ok (.value (.int .i64 l.length)) w:=by
  simp [execOp,ho,resolve,invoke,builtin,hl]
 exact Oper.jt aT ⟨ρ,_,_,h,sU.put hd (.int .i64 _)⟩
end
set_option maxHeartbeats 8000000
theorem zX {H H':Hp} (hm: ∀k,(hget H k).isSome=true->(hget H' k).isSome=true): ∀(x:AV),s1 H x=true->s1 H' x=true
 | .ptr i _,h=>hm i h
 | .sl _ i _ _,h=>hm i h
 | .mp i,h=>hm i h
 | .agg _,h=>h
 | .tup _,h=>h
 | .fn _ _,h=>h
 | .any,h=>h
 | .int _ _,h=>h
 | .bool _,h=>h
 | .str _,h=>h
 | .nils,h=>h
 | .ro _ _ _,h=>h
 | .rp _ _,h=>h
theorem K6 {H H':Hp} (hm: ∀k,(hget H k).isSome=true->(hget H' k).isSome=true): ∀(x:AV),s2 H x=true->s2 H' x=true
 | .ptr i o,h=>zX hm (.ptr i o) h
 | .sl e i o l,h=>zX hm (.sl e i o l) h
 | .mp i,h=>zX hm (.mp i) h
 | .agg xs,h=>List.all_eq_true.2 fun y hy=>zX hm y (List.all_eq_true.1 h y hy)
 | .tup _,h=>h
 | .fn _ xs,h=>List.all_eq_true.2 fun y hy=>zX hm y (List.all_eq_true.1 h y hy)
 | .any,h=>h
 | .int _ _,h=>h
 | .bool _,h=>h
 | .str _,h=>h
 | .nils,h=>h
 | .ro _ _ _,h=>h
 | .rp _ _,h=>h
theorem ZU {H H':Hp} (hm: ∀k,(hget H k).isSome=true->(hget H' k).isSome=true): ∀(x:AV),s3 H x=true->s3 H' x=true
 | .ptr i o,h=>zX hm (.ptr i o) h
 | .sl e i o l,h=>zX hm (.sl e i o l) h
 | .mp i,h=>zX hm (.mp i) h
 | .agg xs,h=>List.all_eq_true.2 fun y hy=>K6 hm y (List.all_eq_true.1 h y hy)
 | .tup xs,h=>List.all_eq_true.2 fun y hy=>K6 hm y (List.all_eq_true.1 h y hy)
 | .fn _ xs,h=>List.all_eq_true.2 fun y hy=>K6 hm y (List.all_eq_true.1 h y hy)
 | .any,h=>h
 | .int _ _,h=>h
 | .bool _,h=>h
 | .str _,h=>h
 | .nils,h=>h
 | .ro _ _ _,h=>h
 | .rp _ _,h=>h
section
variable {O:Hp} {i j:Nat} (hi:(hget O i).isSome=false) (hj:(hget O j).isSome=false)
include hi hj
end
theorem MK {fr:Fr} {H:Hp} (h:fr.all (fun q=>s3 H q.2)=true) (t:Nat):fget fr t= .any\/s3 H (fget fr t)=true:=by
 induction fr with
 |nil=>exact .inl rfl
 |cons q fr ih=>
  obtain ⟨s,x⟩:=q;simp only [List.all_cons,Bool.and_eq_true] at h;simp only [fget]
  split
  ·exact .inr h.1
  ·exact ih h.2
theorem Wk.app {F A fr:Fr} {H H':Hp} (hA:subF F H' A) (hH:subH H H' H') (pd: ∀t,fget fr t= .any\/s3 H' (fget fr t)=true) (h2: ∀t,1000000<=t->fget F t=fget (lft fr) t) (hl:A.all (fun q=>decide (q.1<1000000))=true):Wk F H (A++lft fr) H':=by
 have hf: ∀t,fget (A++lft fr) t= .any\/(fget (A++lft fr) t=fget F t/\s3 H' (fget (A++lft fr) t)=true):=by
  intro t;have key: ∀(A:Fr),subF F H' A->A.all (fun q=>decide (q.1<1000000))=true->fget (A++lft fr) t= .any\/(fget (A++lft fr) t=fget F t/\s3 H' (fget (A++lft fr) t)=true):=by
   intro A
   induction A with
   |nil=>
    intro _ _;rw [List.nil_append];rcases Nat.lt_or_ge t 1000000 with h|h
    ·left;rw [EG,if_neg (by omega)]
    ·have e:=h2 t h;rw [←e];rw [EG,if_pos h] at e;rcases pd (t-1000000) with g|g
     ·left;rw [e];exact g
     ·right;exact ⟨rfl,by rw [e];exact g⟩
   |cons q A ih=>
    intro h1 h3;obtain ⟨t',x⟩:=q;obtain ⟨g1,g2,g3⟩:=h1;simp only [List.all_cons,Bool.and_eq_true] at h3;rw [List.cons_append];simp only [fget]
    split
    ·rename_i e;subst e;right;exact ⟨g1.symm,g2⟩
    ·exact ih g3 h3.2
  exact key A hA hl
 intro B w0 Mx N w ρ a hs;refine ⟨ρ,(hs.weaken (fun id o ho=>(Dn hH id o ho).1) (fun t=>(hf t).imp id (·.1)) (fun id o ho M hr=>?_) (fun t M v hv=>?_))⟩
 ·have oi:=(Dn hH id o ho).2;cases o with
  |gone=>trivial
  |cells t c=>
   obtain ⟨k1,arr,k2,k3,k4⟩:=hr;refine ⟨k1,arr,k2,k3,fun j hj=>?_⟩;obtain ⟨u,hu,hv⟩:=k4 j hj;refine ⟨u,hu,?_⟩;cases c with
   |ints l=>exact hv.bN rfl
   |bools l=>exact hv.bN rfl
   |lst l=>
    simp only [Cs.len] at hj;simp only [Cs.get,List.getD_eq_getElem?_getD,List.getElem?_eq_getElem hj,Option.getD_some] at hv⊢;exact hv.uH (List.all_eq_true.1 oi _ (List.getElem_mem hj))
  |gmap t ck l=>
   obtain ⟨es,k1,k2,k3⟩:=hr;exact ⟨es,k1,k2,fun j e q he hl=>let ⟨g1,g2,g3⟩:=k3 j e q he hl;⟨g1,g2,g3.uH (List.all_eq_true.1 oi q (List.mem_of_getElem? hl))⟩⟩
  |iter mid s sn la=>
   obtain ⟨_,k2,k3⟩:=hr;exact ⟨Option.isSome_iff_exists.1 oi,k2,k3⟩
  |imap t l=>
   obtain ⟨k0,es,ck,k1,k2,k3⟩:=hr;exact ⟨k0,es,ck,k1,k2,fun j e k x he hl=>let ⟨g1,g2,g3⟩:=k3 j e k x he hl;⟨g1,g2.uH (List.all_eq_true.1 oi (k,x) (List.mem_of_getElem? hl)),g3⟩⟩
  |fmap t c=>exact hr
 ·rcases hf t with e|⟨_,e⟩
  ·rw [e];exact .any _
  ·exact hv.uH e
theorem ysx: ∀fr:Fr,unl (lft fr)=fr
 |[]=>rfl
 |(s,x)::r=>by simp [lft,unl,ysx r]
attribute [go_sem] ysx
theorem Wk.tm {F A fr:Fr} {H H' ok:Hp} (pd:fr.all (fun q=>s3 ok q.2)=true) (hA:subF F H' A) (hH:subH H H' H') (iw: ∀i,(hget ok i).isSome=true->(hget H' i).isSome=true) (h2: ∀t,1000000<=t->fget F t=fget (lft fr) t) (hl:A.all (fun q=>decide (q.1<1000000))=true):Wk F H (A++lft fr) H':=
 Wk.app hA hH (fun t=>(MK pd t).imp id (ZU iw _)) h2 hl
end Go.Proofs.YtjpbeacamoijhaaGreatDoor
