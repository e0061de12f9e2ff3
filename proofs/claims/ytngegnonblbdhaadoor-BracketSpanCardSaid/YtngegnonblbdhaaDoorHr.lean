/- Rows of one's own whose number is not known. -/
import Derived.Test.YtngegnonblbdhaaDoorZb
import Derived.Test.YtngegnonblbdhaaDoorZj
set_option linter.unusedSimpArgs false
set_option linter.unusedVariables false
namespace Go.Proofs.YtngegnonblbdhaaDoor
open Go Go.RowKit
set_option maxRecDepth 100000
def ybd (T:List (Nat×List Int)):Hp:=T.map fun q=>(q.1,AObj.cells 3 (.ints q.2))
theorem ybv (i:Nat) (r:List Int) (T:List (Nat×List Int)):ybd ((i,r)::T)=(i,AObj.cells 3 (.ints r))::ybd T:=rfl
def tset:List (Nat×List Int)->Nat->List Int->List (Nat×List Int)
 |[],_,_=>[]
 |(i,r)::T,j,r'=>if i=j then (i,r')::T else (i,r)::tset T j r'
theorem yjn (T:List (Nat×List Int)) (j:Nat) (r:List Int) (o:AObj) (h:hget (ybd T) j=some o) (i:Nat):hget (ybd (tset T j r)) i=if i=j then some (.cells 3 (.ints r)) else hget (ybd T) i:=by
 induction T with
 |nil=>cases h
 |cons q T ih=>
  obtain ⟨k,x⟩:=q
  rw [ybv] at h⊢
  simp only [hget,tset] at h⊢
  by_cases e:k=j
  ·subst e
   rw [if_pos rfl,ybv]
   simp only [hget]
   by_cases e2:k=i
   ·subst e2;simp
   ·rw [if_neg e2,if_neg e2,if_neg (fun h=>e2 h.symm)]
  ·rw [if_neg e] at h⊢
   rw [ybv]
   simp only [hget]
   by_cases e2:k=i
   ·subst e2;rw [if_pos rfl,if_pos rfl,if_neg e]
   ·rw [if_neg e2,if_neg e2];exact ih h
def TOk (T:List (Nat×List Int)):Prop:= ∀q∈T,hget (ybd T) q.1=some (.cells 3 (.ints q.2))
theorem yca {v:AV}: ∀(E:List (Int×AV)) (n:Int),ya4 (lput E n v) n=some v
 |[],n=>by simp [ya4,lput]
 |q::E,n=>by
  unfold lput
  split
  ·simp [ya4]
  ·rename_i h
   have:=yca (v:=v) E n
   unfold ya4 at this⊢
   have e:(q.1==n)=false:=by simpa using h
   simp only [List.find?_cons,e];exact this
theorem yby {v:AV} {n c:Int} (hc:c≠n): ∀(E:List (Int×AV)),ya4 (lput E n v) c=ya4 E c
 |[]=>by
  have e:(n==c)=false:=by simpa using fun h=>hc h.symm
  simp [ya4,lput,e]
 |q::E=>by
  unfold lput
  split
  ·rename_i h
   have e:(n==c)=false:=by simpa using fun h=>hc h.symm
   have e2:(q.1==c)=false:=by rw [h];exact e
   simp [ya4,List.find?_cons,e,e2]
  ·have:=yby (v:=v) hc E
   unfold ya4 at this⊢
   simp only [List.find?_cons]
   cases q.1==c
   ·exact this
   ·rfl
structure Tab (n:Nat) (E:List (Int×AV)) (T:List (Nat×List Int)) (f:Int->Option (List Int)):Prop where
 no: ∀c,f c=none->ya4 E c=none
 yes: ∀c r,f c=some r-> ∃id,ya4 E c=some (.sl 1 id 0 (n+1))/\hget (ybd T) id=some (.cells 3 (.ints r))/\r.length=n+1
 inj: ∀c c' id,ya4 E c=some (.sl 1 id 0 (n+1))->ya4 E c'=some (.sl 1 id 0 (n+1))->c=c'
 nd:(T.map (·.1)).Nodup
 low: ∀q∈T,4<=q.1
 mem: ∀q∈E,∃id,q.2= .sl 1 id 0 (n+1)/\(hget (ybd T) id).isSome=true
theorem yg5 {T:List (Nat×List Int)} {i:Nat} {o:AObj} (h:hget (ybd T) i=some o): ∃r,(i,r)∈T/\o= .cells 3 (.ints r):=by
 induction T with
 |nil=>cases h
 |cons q T ih=>
  obtain ⟨k,x⟩:=q
  rw [ybv] at h
  simp only [hget] at h
  split at h
  ·rename_i e;subst e;cases h;exact ⟨x,List.mem_cons_self ..,rfl⟩
  ·obtain ⟨r,h1,h2⟩:=ih h;exact ⟨r,List.mem_cons_of_mem _ h1,h2⟩
theorem Tab.new {n:Nat} {E:List (Int×AV)} {T:List (Nat×List Int)} {f:Int->Option (List Int)} (h:Tab n E T f) {c:Int} (hf:f c=none) {id:Nat} (hid: ∀q∈T,q.1<id) (h3:4<=id) {r:List Int} (hr:r.length=n+1):
  Tab n (lput E c (.sl 1 id 0 (n+1))) ((id,r)::T) (fun x=>if x=c then some r else f x):=by
 have old: ∀i o,hget (ybd T) i=some o->hget (ybd ((id,r)::T)) i=some o:=fun i o hi=>by
  obtain ⟨x,hx,_⟩:=yg5 hi
  have:=hid _ hx
  rw [ybv];simp only [hget];rw [if_neg (by omega)];exact hi
 have mid: ∀c' i,ya4 E c'=some (.sl 1 i 0 (n+1))->i≠id:=fun c' i hi e=>by
  subst e
  unfold ya4 at hi
  obtain ⟨q,hq,hq2⟩:=Option.map_eq_some_iff.1 hi
  obtain ⟨j,e1,e2⟩:=h.mem q (List.mem_of_find?_eq_some hq)
  rw [hq2] at e1;cases e1
  obtain ⟨o,ho⟩:=Option.isSome_iff_exists.1 e2
  obtain ⟨x,hx,_⟩:=yg5 ho
  have:=hid _ hx
  omega
 refine ⟨fun c' hc'=>?_,fun c' r' hc'=>?_,fun c1 c2 i h1 h2=>?_,?_,fun q hq=>?_,fun q hq=>?_⟩
 ·by_cases e:c'=c
  ·subst e;simp at hc'
  ·rw [yby e];simp only [if_neg e] at hc';exact h.no c' hc'
 ·by_cases e:c'=c
  ·subst e
   simp only [if_true,Option.some.injEq] at hc'
   subst hc'
   exact ⟨id,yca _ _,by rw [ybv];simp [hget],hr⟩
  ·simp only [if_neg e] at hc'
   obtain ⟨i,a1,a2,a3⟩:=h.yes c' r' hc'
   exact ⟨i,by rw [yby e];exact a1,old i _ a2,a3⟩
 ·by_cases e1:c1=c
  ·by_cases e2:c2=c
   ·rw [e1,e2]
   ·rw [e1,yca] at h1
    rw [yby e2] at h2
    cases h1
    exact absurd rfl (mid c2 _ h2)
  ·by_cases e2:c2=c
   ·rw [e2,yca] at h2
    rw [yby e1] at h1
    cases h2
    exact absurd rfl (mid c1 _ h1)
   ·rw [yby e1] at h1
    rw [yby e2] at h2
    exact h.inj c1 c2 i h1 h2
 ·rw [List.map_cons,List.nodup_cons]
  refine ⟨fun hm=>?_,h.nd⟩
  obtain ⟨q,hq,e⟩:=List.mem_map.1 hm
  have:=hid q hq
  simp only at e
  omega
 ·rcases List.mem_cons.1 hq with rfl|hq
  ·exact h3
  ·exact h.low q hq
 ·obtain ⟨k,x⟩:=q
  rcases ym2 hq with hq|hq
  ·obtain ⟨i,a1,a2⟩:=h.mem _ hq
   obtain ⟨o,ho⟩:=Option.isSome_iff_exists.1 a2
   exact ⟨i,a1,by rw [old i o ho];rfl⟩
  ·cases hq
   exact ⟨id,rfl,by rw [ybv];simp [hget]⟩
theorem yw8 {T:List (Nat×List Int)} {j:Nat} {r:List Int} {q:Nat×List Int} (h:q∈tset T j r): ∃r',(q.1,r')∈T:=by
 induction T with
 |nil=>cases h
 |cons p T ih=>
  obtain ⟨i,x⟩:=p
  unfold tset at h
  split at h
  ·rcases List.mem_cons.1 h with rfl|h
   ·exact ⟨x,List.mem_cons_self ..⟩
   ·exact ⟨q.2,List.mem_cons_of_mem _ h⟩
  ·rcases List.mem_cons.1 h with rfl|h
   ·exact ⟨x,List.mem_cons_self ..⟩
   ·obtain ⟨r',hr⟩:=ih h;exact ⟨r',List.mem_cons_of_mem _ hr⟩
theorem ydk: ∀{T:List (Nat×List Int)},(T.map (·.1)).Nodup->TOk T
 |[],_,q,hq=>by cases hq
 |(i,r)::T,h,q,hq=>by
  rw [List.map_cons,List.nodup_cons] at h
  rw [ybv]
  simp only [hget]
  rcases List.mem_cons.1 hq with rfl|hq
  ·simp
  ·have:i≠q.1:=fun e=>h.1 (e▸List.mem_map.2 ⟨q,hq,rfl⟩)
   rw [if_neg this];exact ydk h.2 q hq
theorem yw9 (T:List (Nat×List Int)) (j:Nat) (r:List Int):(tset T j r).map (·.1)=T.map (·.1):=by
 induction T with
 |nil=>rfl
 |cons p T ih=>
  obtain ⟨i,x⟩:=p
  unfold tset
  split
  ·rfl
  ·rw [List.map_cons,List.map_cons,ih]
theorem Tab.upd {n:Nat} {E:List (Int×AV)} {T:List (Nat×List Int)} {f:Int->Option (List Int)} (h:Tab n E T f) {c:Int} {id:Nat} {r r':List Int} (hf:f c=some r) (hl:ya4 E c=some (.sl 1 id 0 (n+1))) (hg:hget (ybd T) id=some (.cells 3 (.ints r))) (hr:r'.length=n+1):
  Tab n E (tset T id r') (fun x=>if x=c then some r' else f x):=by
 refine ⟨fun c' hc'=>?_,fun c' x hc'=>?_,h.inj,by rw [yw9];exact h.nd,fun q hq=>?_,fun q hq=>?_⟩
 ·by_cases e:c'=c
  ·subst e;simp at hc'
  ·simp only [if_neg e] at hc';exact h.no c' hc'
 ·by_cases e:c'=c
  ·subst e
   simp only [if_true,Option.some.injEq] at hc'
   subst hc'
   exact ⟨id,hl,by rw [yjn T id r' _ hg,if_pos rfl],hr⟩
  ·simp only [if_neg e] at hc'
   obtain ⟨i,a1,a2,a3⟩:=h.yes c' x hc'
   have:i≠id:=fun e2=>by subst e2;exact e (h.inj c' c i a1 hl)
   exact ⟨i,a1,by rw [yjn T id r' _ hg,if_neg this];exact a2,a3⟩
 ·obtain ⟨x,hx⟩:=yw8 hq
  exact h.low (q.1,x) hx
 ·obtain ⟨i,a1,a2⟩:=h.mem q hq
  refine ⟨i,a1,?_⟩
  rw [yjn T id r' _ hg]
  split
  ·rfl
  ·exact a2
def yap (T:List (Nat×List Int)):Hp:=ybd T++[(3, .gone)]
theorem yhv:yap []=[(3, .gone)]:=rfl
theorem yb4 (i:Nat) (r:List Int) (T:List (Nat×List Int)):yap ((i,r)::T)=(i,AObj.cells 3 (.ints r))::yap T:=rfl
theorem ycy (T:List (Nat×List Int)) {i:Nat} (h:i≠3):hget (yap T) i=hget (ybd T) i:=by
 unfold yap
 rw [yhu]
 cases hget (ybd T) i with
 |some o=>rfl
 |none=>simp [show¬(3=i) by omega]
theorem yry (T:List (Nat×List Int)) (j:Nat) (r:List Int) (hj:j≠3):hset (yap T) j (.cells 3 (.ints r))=yap (tset T j r):=by
 induction T with
 |nil=>simp [yap,ybd,hset,tset,show¬(3=j) by omega]
 |cons q T ih=>
  obtain ⟨i,x⟩:=q
  rw [yb4]
  simp only [hset,tset]
  split
  ·rfl
  ·rw [ih,yb4]
theorem yt5 (T:List (Nat×List Int)):4<=hnew (yap T):=by
 induction T with
 |nil=>simp [yap,ybd,hnew]
 |cons q T ih=>obtain ⟨i,x⟩:=q;rw [yb4];simp only [hnew];omega
theorem yof (T:List (Nat×List Int)) (i:Nat) (o:AObj) (h:hget (yap T) i=some o):i<hnew (yap T):=by
 rcases Nat.lt_or_ge i (hnew (yap T)) with g|g
 ·exact g
 ·rw [yfa g] at h;cases h
theorem ypf (HF:Hp) (T:List (Nat×List Int)):yef HF (yap T)=True:=by
 induction T with
 |nil=>simp [yap,ybd,yef,ydd]
 |cons q T ih=>obtain ⟨i,r⟩:=q;rw [yb4];simp only [yef,ydd,ih,and_self]
theorem ykp (HF:Hp) (h3:hget HF 3=none): ∀(T:List (Nat×List Int)),(∀q∈T,hget HF q.1=none)->frzH HF (yap T)=yap T
 |[],_=>by simp [yap,ybd,frzH,h3,frzO]
 |(i,r)::T,h=>by
  rw [yb4]
  simp only [frzH,h (i,r) (List.mem_cons_self ..),frzO]
  rw [ykp HF h3 T fun q hq=>h q (List.mem_cons_of_mem _ hq)]
theorem yg6 {H H':Hp} (h3:hget H 3=some .gone): ∀(T:List (Nat×List Int)),(∀q∈T,hget H q.1=some (.cells 3 (.ints q.2)))->subH H H' (yap T)
 |[],_=>⟨h3,rfl,trivial⟩
 |(i,r)::T,h=>⟨h (i,r) (List.mem_cons_self ..),rfl,yg6 h3 T fun q hq=>h q (List.mem_cons_of_mem _ hq)⟩
theorem ygk {T:List (Nat×List Int)} (h: ∀q∈T,4<=q.1):hget (yap T) 3=some .gone:=by
 induction T with
 |nil=>rfl
 |cons q T ih=>
  obtain ⟨i,r⟩:=q
  have:=h (i,r) (List.mem_cons_self ..)
  rw [yb4]
  simp only [hget]
  rw [if_neg (by omega),ih fun q hq=>h q (List.mem_cons_of_mem _ hq)]
theorem Tab.nil (n:Nat):Tab n [] [] (fun _=>none):=
 ⟨fun _ _=>rfl,(fun _ _ h=>by cases h),(fun _ _ _ h=>by simp [ya4] at h),by simp,(fun _ h=>by cases h),(fun _ h=>by cases h)⟩
theorem yt6 (T:List (Nat×List Int)) {f:(Nat×AObj)->Bool} (h1: ∀i r,f (i, .cells 3 (.ints r))=true) (h2:f (3, .gone)=true):(yap T).all f=true:=by
 induction T with
 |nil=>simp [yap,ybd,h2]
 |cons q T ih=>obtain ⟨i,r⟩:=q;rw [yb4,List.all_cons,h1,ih];rfl
theorem ykq {dl:List Nat} (T:List (Nat×List Int)) (h: ∀i∈dl,i≠3/\ ∀q∈T,q.1≠i):yaf dl (yap T)=yap T:=by
 have nc: ∀i,i∉dl->dl.contains i=false:=fun i hi=>by simpa using hi
 induction T with
 |nil=>
  have:dl.contains 3=false:=nc 3 fun h3=>(h 3 h3).1 rfl
  simp only [yhv,yaf,this,Bool.false_eq_true,if_false]
 |cons q T ih=>
  obtain ⟨i,r⟩:=q
  have:dl.contains i=false:=nc i fun hi=>(h i hi).2 (i,r) (List.mem_cons_self ..) rfl
  rw [yb4]
  simp only [yaf,this,Bool.false_eq_true,if_false]
  rw [ih fun j hj=>⟨(h j hj).1,fun q hq=>(h j hj).2 q (List.mem_cons_of_mem _ hq)⟩]
end Go.Proofs.YtngegnonblbdhaaDoor
