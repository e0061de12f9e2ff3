/- Plain: polynomials that are known by their coefficients. -/
import Derived.Test.YtbblgobamoabkaaGreatDoorZd
import Derived.Test.YtbblgobamoabkaaGreatDoorZc
import Derived.Test.YtbblgobamoabkaaGreatDoorZb
set_option linter.unusedSimpArgs false
set_option linter.unusedVariables false
namespace Go.Proofs.YtbblgobamoabkaaGreatDoor
set_option maxRecDepth 100000
structure yak (p:List (Int×Int)) (f:Int->Int):Prop where
 asc:AscN p
 cf: ∀e,cfL p e=f e
theorem yak.congr {p:List (Int×Int)} {f g:Int->Int} (h:yak p f) (e: ∀x,f x=g x):yak p g:=⟨h.asc,fun x=>(h.cf x).trans (e x)⟩
theorem yak.mem {p:List (Int×Int)} {f:Int->Int} (h:yak p f) {t:Int×Int} (ht:t∈p):t.2=f t.1/\f t.1≠0:=by
 have:=yhq h.asc ht
 rw [h.cf] at this
 exact ⟨this.symm,by rw [this];exact h.asc.nz t ht⟩
theorem yak.len {p:List (Int×Int)} {f:Int->Int} (h:yak p f) (hs: ∀e,f e≠0-> -1000<=e/\e<=1000):p.length<=2001:=by
 have:=h.asc.len (a:= -1000) (b:=1000) fun t ht=>hs _ (h.mem ht).2
 omega
theorem yim {p:List (Int×Int)} (h:p.Pairwise fun a b=>a.1<b.1) {t:Int×Int} (ht:t∈p):cfL p t.1=t.2:=by
 induction p with
 |nil=>cases ht
 |cons u p ih=>
  have h1:=List.pairwise_cons.1 h
  simp only [cfL]
  rcases List.mem_cons.1 ht with rfl|ht
  ·rw [if_pos rfl,ye5 fun v hv=>by have:=h1.1 v hv;omega];omega
  ·rw [if_neg (by have:=h1.1 t ht;omega),ih h1.2 ht];omega
end Go.Proofs.YtbblgobamoabkaaGreatDoor
namespace Go.Proofs.YtbblgobamoabkaaGreatDoor
set_option linter.unusedSimpArgs false
set_option linter.unusedVariables false
abbrev SumM:=List (Int×Int×Int)
def suV (q:Int×Int):Int:=q.1*33554432+q.2
def mPut:SumM->Int->Int->SumM
 |[],e,v=>[(e,v/33554432,v % 33554432)]
 |q::m,e,v=>if q.1=e then (e,q.2.1+v/33554432,q.2.2+v % 33554432)::m else q::mPut m e v
def yer:SumM->Int->Option (Int×Int)
 |[],_=>none
 |q::m,e=>if q.1=e then some q.2 else yer m e
def mVal (m:SumM) (e:Int):Int:=match yer m e with
 |some q=>suV q
 |none=>0
theorem yjk {e:Int} {v:Int×Int}: ∀{m:SumM},yer m e=some v->(e,v)∈m
 |[],h=>by cases h
 |q::m,h=>by
  simp only [yer] at h
  split at h
  ·rename_i hq
   cases h
   obtain ⟨q1,q2⟩:=q
   dsimp only at hq
   subst hq
   exact List.mem_cons_self ..
  ·exact List.mem_cons_of_mem _ (yjk h)
theorem ylg (e:Int):mVal [] e=0:=rfl
theorem ydo (q:Int×Int×Int) (m:SumM) (e:Int):mVal (q::m) e=if q.1=e then suV q.2 else mVal m e:=by
 unfold mVal
 simp only [yer]
 by_cases h:q.1=e
 ·rw [if_pos h,if_pos h]
 ·rw [if_neg h,if_neg h]
theorem yp9 (e v x:Int): ∀m:SumM,mVal (mPut m e v) x=mVal m x+if x=e then v else 0
 |[]=>by
  simp only [mPut,ydo,ylg]
  by_cases h:x=e
  ·rw [if_pos h.symm,if_pos h];simp only [suV];omega
  ·rw [if_neg (fun h'=>h h'.symm),if_neg h];rfl
 |q::m=>by
  simp only [mPut]
  by_cases hq:q.1=e
  ·rw [if_pos hq,ydo,ydo]
   by_cases h:x=e
   ·rw [if_pos h.symm,if_pos (by omega),if_pos h];simp only [suV];omega
   ·rw [if_neg (fun h'=>h h'.symm),if_neg (by omega),if_neg h];omega
  ·rw [if_neg hq,ydo,ydo,yp9 e v x m]
   by_cases h:q.1=x
   ·rw [if_pos h,if_pos h,if_neg (by omega)];omega
   ·rw [if_neg h,if_neg h]
theorem ysv {u:Int×Int×Int}: ∀{m:SumM},(m.map (·.1)).Nodup->u∈m->mVal m u.1=suV u.2
 |[],_,h=>by cases h
 |q::m,hn,h=>by
  rw [List.map_cons] at hn
  have hn':=List.nodup_cons.1 hn
  rw [ydo]
  rcases List.mem_cons.1 h with rfl|h
  ·rw [if_pos rfl]
  ·rw [if_neg,ysv hn'.2 h]
   intro e
   exact hn'.1 (by have:=List.mem_map_of_mem (f:=(·.1)) h;rw [←e] at this;exact this)
theorem ylh {q:Int×Int×Int} {e v:Int}: ∀{m:SumM},q∈mPut m e v->q∈m\/q.1=e
 |[],h=>by simp only [mPut,List.mem_singleton] at h;exact .inr (by rw [h])
 |u::m,h=>by
  simp only [mPut] at h
  split at h
  ·rcases List.mem_cons.1 h with rfl|h
   ·exact .inr rfl
   ·exact .inl (List.mem_cons_of_mem _ h)
  ·rcases List.mem_cons.1 h with rfl|h
   ·exact .inl (List.mem_cons_self ..)
   ·exact (ylh h).imp (List.mem_cons_of_mem _) id
structure MOk (m:SumM) (k:Nat):Prop where
 nd:(m.map (·.1)).Nodup
 len:m.length<=k
 bn: ∀q∈m,(-(k*67108864:Int)<=q.2.1/\q.2.1<=k*67108864)/\0<=q.2.2/\q.2.2<=k*33554432
theorem MOk.nil:MOk [] 0:=⟨.nil,Nat.le_refl _,fun _ h=>by cases h⟩
theorem MOk.mono {m:SumM} {k k':Nat} (h:MOk m k) (hk:k<=k'):MOk m k':=⟨h.nd,Nat.le_trans h.len hk,fun q hq=>by have:=h.bn q hq;omega⟩
theorem MOk.put {m:SumM} {k:Nat} (e:Int) {v:Int} (h:MOk m k) (hv: -1125899906842624<=v/\v<=1125899906842624):MOk (mPut m e v) (k+1):=by
 obtain ⟨nd,hl,hb⟩:=h
 induction m generalizing k with
 |nil=>exact ⟨by simp [mPut],by simp [mPut],fun q hq=>by
  simp only [mPut,List.mem_singleton] at hq
  subst hq
  dsimp only;omega⟩
 |cons u m ih=>
  rw [List.map_cons] at nd
  have nd':=List.nodup_cons.1 nd
  simp only [mPut]
  have hu:=hb u (List.mem_cons_self ..)
  split
  ·rename_i he
   refine ⟨?_,by simp only [List.length_cons] at hl⊢;omega,fun q hq=>?_⟩
   ·rw [List.map_cons,←he];exact nd
   ·rcases List.mem_cons.1 hq with rfl|hq
    ·dsimp only;omega
    ·have:=hb q (List.mem_cons_of_mem _ hq);omega
  ·rename_i he
   simp only [List.length_cons] at hl
   have i2:=ih (k:=k) nd'.2 (by omega) (fun q hq=>hb q (List.mem_cons_of_mem _ hq))
   have hlen:(mPut m e v).length<=m.length+1:=by
    clear ih nd nd' hl hb hu i2
    induction m with
    |nil=>simp [mPut]
    |cons a m ih=>simp only [mPut];split<;>simp only [List.length_cons]<;>omega
   refine ⟨List.nodup_cons.2 ⟨fun hm=>?_,i2.nd⟩,by simp only [List.length_cons];omega,fun q hq=>?_⟩
   ·obtain ⟨q,q1,q2⟩:=List.mem_map.1 hm
    rcases ylh q1 with q1|q1
    ·exact nd'.1 (by have:=List.mem_map_of_mem (f:=(·.1)) q1;rw [q2] at this;exact this)
    ·exact he (q2.symm.trans q1)
   ·rcases List.mem_cons.1 hq with rfl|hq
    ·omega
    ·exact i2.bn q hq
def fS (q:Int×Int×Int):List (Int×Int):=if suV q.2=0 then [] else [(q.1,suV q.2)]
def outS (m:SumM) (sn:List Nat):List (Int×Int):=sn.flatMap fun b=>fS (m.getD b (0,0,0))
theorem yxh (m:SumM) (sn:List Nat) (b:Nat):outS m (sn++[b])=outS m sn++fS (m.getD b (0,0,0)):=by simp [outS]
theorem yli (m:SumM): ∀sn:List Nat,(outS m sn).length<=sn.length
 |[]=>Nat.le_refl _
 |b::sn=>by
  have:=yli m sn
  simp only [outS,List.flatMap_cons,List.length_append,List.length_cons] at this⊢
  have:(fS (m.getD b (0,0,0))).length<=1:=by unfold fS;split<;>simp
  omega
theorem y05 (m:SumM):outS m (List.range m.length)=m.flatMap fS:=by
 have h:(List.range m.length).map (fun b=>m.getD b (0,0,0))=m:=by
  apply List.ext_getElem?
  intro i
  by_cases hi:i<m.length<;>simp [hi]
 conv=>rhs;rw [←h]
 rw [List.flatMap_map];rfl
theorem yxi (m:SumM) {sn:List Nat} (h:sn.Perm (List.range m.length)):(outS m sn).Perm (m.flatMap fS):=by
 rw [←y05];exact h.flatMap_right _
theorem y06 {p q:List (Int×Int)} (h:p.Perm q) (e:Int):cfL p e=cfL q e:=by
 induction h with
 |nil=>rfl
 |cons x _ ih=>simp only [cfL,ih]
 |swap x y l=>simp only [cfL];omega
 |trans _ _ h1 h2=>rw [h1,h2]
theorem yka: ∀m:SumM,((m.flatMap fS).map (·.1)).Sublist (m.map (·.1))
 |[]=> .slnil
 |q::m=>by
  simp only [List.flatMap_cons,List.map_append,List.map_cons]
  unfold fS
  split
  ·exact (yka m).cons _
  ·exact (yka m).cons_cons _
theorem yxj: ∀{m:SumM},(m.map (·.1)).Nodup-> ∀e,cfL (m.flatMap fS) e=mVal m e
 |[],_,e=>rfl
 |q::m,h,e=>by
  rw [List.map_cons] at h
  have h':=List.nodup_cons.1 h
  have ih:=yxj h'.2 e
  rw [List.flatMap_cons,ye4,ih,ydo]
  unfold fS
  by_cases hq:q.1=e
  ·rw [if_pos hq]
   have h0:mVal m e=0:=by
    rw [←ih]
    refine ye5 fun t ht he=>h'.1 ?_
    have:=(yka m).subset (List.mem_map_of_mem ht)
    rw [he,←hq] at this
    exact this
   rw [h0]
   split
   ·rename_i hz;rw [hz];rfl
   ·simp only [cfL];rw [if_pos hq];omega
  ·rw [if_neg hq]
   split
   ·simp only [cfL];omega
   ·simp only [cfL];rw [if_neg hq];omega
theorem y6j {m:SumM} {t:Int×Int} (h:t∈m.flatMap fS):t.2≠0:=by
 obtain ⟨q,_,h2⟩:=List.mem_flatMap.1 h
 unfold fS at h2
 split at h2
 ·cases h2
 ·rename_i hz
  rw [List.mem_singleton.1 h2];exact hz
theorem yxk {m:SumM} (hm:(m.map (·.1)).Nodup) {sn:List Nat} (hs:sn.Perm (List.range m.length)) {r:List (Int×Int)} (hr:r.Perm (outS m sn)) (ho:r.Pairwise fun a b=>a.1<=b.1):yak r (mVal m):=by
 have hp:=hr.trans (yxi m hs)
 have hk:(r.map (·.1)).Nodup:=(hp.map (·.1)).nodup_iff.2 ((yka m).nodup hm)
 refine ⟨⟨?_,fun t ht=>y6j (hp.mem_iff.1 ht)⟩,fun e=>by rw [y06 hp,yxj hm]⟩
 have h2:r.Pairwise fun a b=>a.1≠b.1:=by
  have:=List.pairwise_map.1 hk
  exact this
 exact (ho.and h2).imp fun ⟨a,b⟩=>by omega
def mAdd (c d:Int):SumM->List (Int×Int)->SumM
 |m,[]=>m
 |m,t::p=>mAdd c d (mPut m (d+t.1) (c*t.2)) p
theorem yjl (c d:Int) (t:Int×Int): ∀(p:List (Int×Int)) (m:SumM),mAdd c d m (p++[t])=mPut (mAdd c d m p) (d+t.1) (c*t.2)
 |[],_=>rfl
 |u::p,m=>yjl c d t p _
theorem yin (c d x:Int): ∀(p:List (Int×Int)) (m:SumM),mVal (mAdd c d m p) x=mVal m x+c*cfL p (x-d)
 |[],m=>by simp [mAdd,cfL]
 |t::p,m=>by
  simp only [mAdd,cfL]
  rw [yin c d x p,yp9]
  by_cases h:x=d+t.1
  ·rw [if_pos h,if_pos (by omega),Int.mul_add];omega
  ·rw [if_neg h,if_neg (by omega)];simp
theorem MOk.add {c d:Int}: ∀{p:List (Int×Int)} {m:SumM} {k:Nat},MOk m k->(∀t∈p,-1125899906842624<=c*t.2/\c*t.2<=1125899906842624)->MOk (mAdd c d m p) (k+p.length)
 |[],m,k,h,_=>h
 |t::p,m,k,h,hb=>by
  have ht:=hb t (List.mem_cons_self ..)
  have:=MOk.add (c:=c) (d:=d) (h.put (d+t.1) (v:=c*t.2) ht) (fun u hu=>hb u (List.mem_cons_of_mem _ hu))
  simp only [mAdd,List.length_cons]
  exact this.mono (by omega)
def mMul (q:List (Int×Int)):SumM->List (Int×Int)->SumM
 |m,[]=>m
 |m,s::p=>mMul q (mAdd s.2 s.1 m q) p
theorem yob (q:List (Int×Int)) (s:Int×Int): ∀(p:List (Int×Int)) (m:SumM),mMul q m (p++[s])=mAdd s.2 s.1 (mMul q m p) q
 |[],_=>rfl
 |u::p,m=>yob q s p _
theorem yqa (q:List (Int×Int)) (x:Int): ∀(p:List (Int×Int)) (m:SumM),mVal (mMul q m p) x=mVal m x+cvL p (cfL q) x
 |[],m=>by simp [mMul,cvL]
 |s::p,m=>by
  simp only [mMul,cvL]
  rw [yqa q x p,yin]
  omega
theorem MOk.mul {q:List (Int×Int)}: ∀{p:List (Int×Int)} {m:SumM} {k:Nat},MOk m k->(∀s∈p,∀t∈q,-1125899906842624<=s.2*t.2/\s.2*t.2<=1125899906842624)->MOk (mMul q m p) (k+p.length*q.length)
 |[],m,k,h,_=>by simpa [mMul] using h
 |s::p,m,k,h,hb=>by
  have:=MOk.mul (q:=q) (h.add (c:=s.2) (d:=s.1) (p:=q) (fun t ht=>hb s (List.mem_cons_self ..) t ht)) (p:=p) (fun u hu=>hb u (List.mem_cons_of_mem _ hu))
  simp only [mMul,List.length_cons,Nat.succ_mul]
  exact this.mono (by omega)
theorem ysw (u v c d:Int) (e:Int): ∀p:List (Int×Int),cvL p (cfL [(u,c),(v,d)]) e=c*cfL p (e-u)+d*cfL p (e-v)
 |[]=>by simp [cvL,cfL]
 |t::p=>by
  simp only [cvL,cfL]
  have ih:=ysw u v c d e p
  simp only [cfL] at ih
  rw [ih,Int.mul_add,Int.mul_add,Int.mul_add]
  have e1:(t.2*if u=e-t.1 then c else 0)=c*if t.1=e-u then t.2 else 0:=by
   by_cases h:u=e-t.1
   ·rw [if_pos h,if_pos (by omega),Int.mul_comm]
   ·rw [if_neg h,if_neg (by omega)];simp
  have e2:(t.2*if v=e-t.1 then d else 0)=d*if t.1=e-v then t.2 else 0:=by
   by_cases h:v=e-t.1
   ·rw [if_pos h,if_pos (by omega),Int.mul_comm]
   ·rw [if_neg h,if_neg (by omega)];simp
  rw [Int.mul_add,e1,e2]
  omega
theorem rngS {sn:List Nat} {N:Nat} (hn:sn.Nodup) (hr: ∀i∈sn,i<N):sn.length<=N:=by
 have hp:(sn++(List.range N).filter fun i=> !sn.contains i).Perm (List.range N):=by
  refine (List.perm_ext_iff_of_nodup ?_ List.nodup_range).2 fun a=>?_
  ·rw [List.nodup_append]
   refine ⟨hn,List.nodup_range.filter _,fun a ha b hb h=>?_⟩
   subst h
   simp [ha] at hb
  ·by_cases h:a∈sn<;>simp [h]
   exact hr a h
 have:=hp.length_eq
 simp only [List.length_append,List.length_range] at this
 omega
def yc4 (m:SumM) (M:Int):Prop:= ∀q∈m,(-M<=bvA q.1/\bvA q.1<=M)/\ -M<=bvZ q.1/\bvZ q.1<=M
theorem yc4.put {m:SumM} {M e v:Int} (h:yc4 m M) (he:(-M<=bvA e/\bvA e<=M)/\ -M<=bvZ e/\bvZ e<=M):yc4 (mPut m e v) M:=fun q hq=>by
 rcases ylh hq with h1|h1
 ·exact h q h1
 ·rw [h1];exact he
theorem yc4.add {c d M:Int}: ∀{p:List (Int×Int)} {m:SumM},yc4 m M->(∀t∈p,(-M<=bvA (d+t.1)/\bvA (d+t.1)<=M)/\ -M<=bvZ (d+t.1)/\bvZ (d+t.1)<=M)->yc4 (mAdd c d m p) M
 |[],_,h,_=>h
 |t::p,m,h,hb=>yc4.add (p:=p) (m:=mPut m (d+t.1) (c*t.2)) (h.put (hb t (List.mem_cons_self ..))) fun u hu=>hb u (List.mem_cons_of_mem _ hu)
theorem yc4.mul {q:List (Int×Int)} {M:Int}: ∀{p:List (Int×Int)} {m:SumM},yc4 m M->(∀s∈p,∀t∈q,(-M<=bvA (s.1+t.1)/\bvA (s.1+t.1)<=M)/\ -M<=bvZ (s.1+t.1)/\bvZ (s.1+t.1)<=M)->yc4 (mMul q m p) M
 |[],_,h,_=>h
 |s::p,m,h,hb=>yc4.mul (p:=p) (m:=mAdd s.2 s.1 m q) (h.add (hb s (List.mem_cons_self ..))) fun u hu=>hb u (List.mem_cons_of_mem _ hu)
theorem yc4.len {m:SumM} {M:Int} (h:yc4 m M) (hn:(m.map (·.1)).Nodup) (hM:M<=300):m.length<=1000000:=by
 have hr: ∀i∈m.map fun q=>(bvA q.1*601+bvZ q.1+180600).toNat,i<361201:=fun i hi=>by
  obtain ⟨q,hq,rfl⟩:=List.mem_map.1 hi
  have:=h q hq
  omega
 have hd:(m.map fun q=>(bvA q.1*601+bvZ q.1+180600).toNat).Nodup:=by
  rw [List.nodup_iff_pairwise_ne] at hn⊢
  rw [List.pairwise_map] at hn⊢
  refine hn.imp_of_mem fun {a b} ha hb hab he=>hab ?_
  have h1:=h a ha
  have h2:=h b hb
  have h3:bvA a.1=bvA b.1/\bvZ a.1=bvZ b.1:=by omega
  rw [←ycb a.1,←ycb b.1,h3.1,h3.2]
 have:=rngS hd hr
 rw [List.length_map] at this
 omega
end Go.Proofs.YtbblgobamoabkaaGreatDoor
namespace Go.Proofs.YtbblgobamoabkaaGreatDoor
open Go Go.RowKit
set_option maxRecDepth 100000
set_option linter.unusedVariables false
set_option linter.unusedSimpArgs false
abbrev kE (e:Int):ByteArray:=kEnc (bvA e) (bvZ e)
theorem yxl {e e':Int}:kE e=kE e'↔e=e':=by
 refine yo8.trans ⟨fun h=>?_,fun h=>by rw [h];exact ⟨rfl,rfl⟩⟩
 rw [←ycb e,←ycb e',h.1,h.2]
def gmL:Nat->SumM->List (ByteArray×Nat×AV)
 |_,[]=>[]
 |i,q::m=>(kE q.1,i, .agg [I q.2.1,I q.2.2])::gmL (i+1) m
theorem ysx: ∀(i:Nat) (m:SumM),(gmL i m).length=m.length
 |_,[]=>rfl
 |i,q::m=>by simp only [gmL,List.length_cons,ysx (i+1) m]
theorem ynd {q:ByteArray×Nat×AV}: ∀{i:Nat} {m:SumM},q∈gmL i m-> ∃k u,m[k]?=some u/\q=(kE u.1,i+k, .agg [I u.2.1,I u.2.2])
 |_,[],h=>by cases h
 |i,u::m,h=>by
  rcases List.mem_cons.1 h with rfl|h
  ·exact ⟨0,u,rfl,rfl⟩
  ·obtain ⟨k,v,h1,rfl⟩:=ynd h
   exact ⟨k+1,v,by simpa using h1,by rw [show i+1+k=i+(k+1) by omega]⟩
theorem yxm: ∀(i:Nat) (m:SumM) (k:Nat) (u:Int×Int×Int),m[k]?=some u->(kE u.1,i+k,AV.agg [I u.2.1,I u.2.2])∈gmL i m
 |_,[],k,u,h=>by simp at h
 |i,v::m,0,u,h=>by simp at h;subst h;exact List.mem_cons_self ..
 |i,v::m,k+1,u,h=>by
  have:=yxm (i+1) m k u (by simpa using h)
  rw [show i+1+k=i+(k+1) by omega] at this
  exact List.mem_cons_of_mem _ this
theorem yoc: ∀(i:Nat) (m:SumM) (k:Nat) (u:Int×Int×Int),m[k]?=some u->(gmL i m).find? (fun q=>q.2.1==i+k)=some (kE u.1,i+k,AV.agg [I u.2.1,I u.2.2])
 |_,[],k,u,h=>by simp at h
 |i,v::m,0,u,h=>by simp at h;subst h;simp [gmL]
 |i,v::m,k+1,u,h=>by
  have:=yoc (i+1) m k u (by simpa using h)
  rw [show i+1+k=i+(k+1) by omega] at this
  simp only [gmL,List.find?_cons]
  rw [show (i==i+(k+1))=false by simp]
  exact this
theorem ylj {e h l:Int} (v:Int): ∀{m:SumM} (i:Nat),yer m e=some (h,l)-> ∃b,ybp (gmL i m) (kE e)=some (kE e,b, .agg [I h,I l])/\yg3 (gmL i m) (kE e) (.agg [I (h+v/33554432),I (l+v % 33554432)])=gmL i (mPut m e v)/\(mPut m e v).length=m.length
 |[],_,h=>by cases h
 |q::m,i,h=>by
  simp only [yer] at h
  unfold ybp
  simp only [gmL,yg3,mPut,List.find?_cons]
  by_cases hq:q.1=e
  ·rw [if_pos hq] at h
   obtain ⟨q1,q2,q3⟩:=q
   cases h
   dsimp only at hq
   subst hq
   exact ⟨i,by rw [decide_eq_true (by rfl)],by rw [if_pos rfl,if_pos rfl];rfl,by rw [if_pos rfl];rfl⟩
  ·rw [if_neg hq] at h
   have hk: ¬kE q.1=kE e:=fun h=>hq (yxl.1 h)
   obtain ⟨b,h1,h2,h3⟩:=ylj v (i+1) h
   unfold ybp at h1
   rw [decide_eq_false hk,if_neg hk,if_neg hq]
   exact ⟨b,h1,by rw [h2];rfl,by simp only [List.length_cons,h3]⟩
theorem ylk {e:Int} (v:Int): ∀{m:SumM} (i:Nat),yer m e=none->ybp (gmL i m) (kE e)=none/\gmL i m++[(kE e,i+m.length,AV.agg [I (v/33554432),I (v % 33554432)])]=gmL i (mPut m e v)/\(mPut m e v).length=m.length+1
 |[],i,_=>⟨rfl,rfl,rfl⟩
 |q::m,i,h=>by
  simp only [yer] at h
  by_cases hq:q.1=e
  ·rw [if_pos hq] at h;cases h
  rw [if_neg hq] at h
  have hk: ¬kE q.1=kE e:=fun h=>hq (yxl.1 h)
  obtain ⟨h1,h2,h3⟩:=ylk v (i+1) h
  unfold ybp at h1⊢
  simp only [gmL,mPut,List.find?_cons]
  rw [decide_eq_false hk,if_neg hq]
  refine ⟨h1,?_,by simp only [List.length_cons,h3]⟩
  rw [show i+(q::m).length=i+1+m.length by simp only [List.length_cons];omega,List.cons_append,h2];rfl
theorem ycn (F:ByteArray×Nat×AV->Bool) (h: ∀e i a b,F (kE e,i, .agg [I a,I b])=true): ∀(i:Nat) (m:SumM),(gmL i m).all F=true
 |_,[]=>rfl
 |i,q::m=>by simp only [gmL,List.all_cons,ycn F h (i+1) m,Bool.and_true];exact h _ _ _ _
theorem ygt (H:Hp): ∀(i:Nat) (m:SumM),((gmL i m).all fun q=>s3 H q.2.2)=true
 |_,[]=>rfl
 |i,q::m=>by simp only [gmL,List.all_cons,ygt H (i+1) m,Bool.and_true];rfl
theorem yxn: ∀(i:Nat) (m:SumM),((gmL i m).all fun q=>p3 q.2.2)=true
 |_,[]=>rfl
 |i,q::m=>by simp only [gmL,List.all_cons,yxn (i+1) m,Bool.and_true];rfl
theorem ycu (H:Hp) (t ck i:Nat) (m:SumM):sO H (.gmap t ck (gmL i m))=true:=ygt H i m
end Go.Proofs.YtbblgobamoabkaaGreatDoor
set_option linter.unusedSimpArgs false
set_option linter.unusedVariables false
namespace Go.Proofs.YtbblgobamoabkaaGreatDoor
open Go Go.RowKit
set_option maxRecDepth 100000
section
variable {P:Program} {N:Nat} {fr:Fr} {H:Hp} {o:Oper}
theorem SpL.mapLen {ops:Array Oper} {rr:List Oper} {K:Fr->Hp->Prop} {t kt et id T ck:Nat} {x:Operand} {l:List (ByteArray×Nat×AV)} (ho:o.op= .call {callee:= .builtin .len,args:= #[x],argTypes:= #[t]}) (hd:dok o.dst N=true) (htk:tk P t= .map kt et)
  (hx:evA fr x= .mp id) (h1:hget H id=some (.gmap T ck l)) (h:awL P N ops rr (fput fr o.dst (I l.length)) H K):SpL P N ops fr H K o rr:=by
 refine SpL.ofX ?_ ?_ ?_ ?_
 ·rw [ho];rfl
 ·rw [ho];simp only [quF,opF,lenF,htk]
 ·rw [ho];rfl
 unfold awX;rw [ho]
 refine ⟨rfl,fun B w0 Mx w ρ ac hsim Q=>?_⟩
 have ex:=(hx▸hsim.ev x).mp_inv
 obtain ⟨es,g1,g2,_⟩:=hsim.objs id _ h1
 have hl:(Builtin.len_ #[t] o.type #[ac.eval x]).run P w= .ok (.int .i64 l.length) w:=by
  rw [ex];simp [Builtin.len_,run_underlying (ybr htk),getObj,Sem.run,g1,g2,goInt]
 have hrun:(execOp ac.eval o).run P w= .ok (.value (.int .i64 l.length)) w:=by
  simp [execOp,ho,resolve,invoke,builtin,hl]
 exact Oper.wp_value hrun ⟨ρ,_,_,h,hsim.put hd (.int .i64 _)⟩
end
end Go.Proofs.YtbblgobamoabkaaGreatDoor
namespace Go.Proofs.YtbblgobamoabkaaGreatDoor
open Go Go.RowKit
set_option maxRecDepth 100000
set_option maxHeartbeats 8000000
set_option linter.unusedVariables false
set_option linter.unusedSimpArgs false
theorem yeg {H H':Hp} (hm: ∀k,(hget H k).isSome=true->(hget H' k).isSome=true): ∀(x:AV),s1 H x=true->s1 H' x=true
 | .ptr i _,h=>hm i h
 | .sl _ i _ _,h=>hm i h
 | .mp i,h=>hm i h
 | .agg _,h=>h
 | .tup _,h=>h
 | .fn _ _,h=>h
 | .any,h=>h
 | .int _ _,h=>h
 | .bool _,h=>h
 | .str _,h=>h
 | .nils,h=>h
 | .ro _ _ _,h=>h
 | .rp _ _,h=>h
theorem yne {H H':Hp} (hm: ∀k,(hget H k).isSome=true->(hget H' k).isSome=true): ∀(x:AV),s2 H x=true->s2 H' x=true
 | .ptr i o,h=>yeg hm (.ptr i o) h
 | .sl e i o l,h=>yeg hm (.sl e i o l) h
 | .mp i,h=>yeg hm (.mp i) h
 | .agg xs,h=>List.all_eq_true.2 fun y hy=>yeg hm y (List.all_eq_true.1 h y hy)
 | .tup _,h=>h
 | .fn _ xs,h=>List.all_eq_true.2 fun y hy=>yeg hm y (List.all_eq_true.1 h y hy)
 | .any,h=>h
 | .int _ _,h=>h
 | .bool _,h=>h
 | .str _,h=>h
 | .nils,h=>h
 | .ro _ _ _,h=>h
 | .rp _ _,h=>h
theorem y3x {H H':Hp} (hm: ∀k,(hget H k).isSome=true->(hget H' k).isSome=true): ∀(x:AV),s3 H x=true->s3 H' x=true
 | .ptr i o,h=>yeg hm (.ptr i o) h
 | .sl e i o l,h=>yeg hm (.sl e i o l) h
 | .mp i,h=>yeg hm (.mp i) h
 | .agg xs,h=>List.all_eq_true.2 fun y hy=>yne hm y (List.all_eq_true.1 h y hy)
 | .tup xs,h=>List.all_eq_true.2 fun y hy=>yne hm y (List.all_eq_true.1 h y hy)
 | .fn _ xs,h=>List.all_eq_true.2 fun y hy=>yne hm y (List.all_eq_true.1 h y hy)
 | .any,h=>h
 | .int _ _,h=>h
 | .bool _,h=>h
 | .str _,h=>h
 | .nils,h=>h
 | .ro _ _ _,h=>h
 | .rp _ _,h=>h
section
variable {O:Hp} {i j:Nat} (hi:(hget O i).isSome=false) (hj:(hget O j).isSome=false)
include hi hj
end
theorem y5g {fr:Fr} {H:Hp} (h:fr.all (fun q=>s3 H q.2)=true) (t:Nat):fget fr t= .any\/s3 H (fget fr t)=true:=by
 induction fr with
 |nil=>exact .inl rfl
 |cons q fr ih=>
  obtain ⟨s,x⟩:=q
  simp only [List.all_cons,Bool.and_eq_true] at h
  simp only [fget]
  split
  ·exact .inr h.1
  ·exact ih h.2
end Go.Proofs.YtbblgobamoabkaaGreatDoor
