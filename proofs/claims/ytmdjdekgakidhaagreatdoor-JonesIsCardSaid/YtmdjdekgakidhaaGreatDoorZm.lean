/- Layer 17: the states of a sweep: a map with a row of its own for each key. -/
import Derived.Test.YtmdjdekgakidhaaGreatDoorZl
namespace Go.Proofs.YtmdjdekgakidhaaGreatDoor
open Go Go.RowKit
set_option maxRecDepth 100000
set_option maxHeartbeats 8000000
set_option linter.unusedVariables false
set_option linter.unusedSimpArgs false
theorem Wk.tM {fr fr':Fr} {H H':Hp} (hf: ∀t,fget fr' t= .any\/(fget fr' t=fget fr t/\s3 H' (fget fr' t)=true)) (hh: ∀i o,hget H' i=some o->hget H i=some o/\sO H' o=true):Wk fr H fr' H':=by
 intro B w0 Mx N w ρ a hs;refine ⟨ρ,(hs.weaken (fun id o ho=>(hh id o ho).1) (fun t=>(hf t).imp id (·.1)) (fun id o ho M hr=>?_) (fun t M v hv=>?_))⟩
 ·have iG:=(hh id o ho).2;cases o with
  |gone=>trivial
  |cells t c=>
   obtain ⟨k1,arr,k2,k3,k4⟩:=hr;refine ⟨k1,arr,k2,k3,fun j hj=>?_⟩;obtain ⟨u,hu,hv⟩:=k4 j hj;refine ⟨u,hu,?_⟩;cases c with
   |ints l=>exact hv.aX rfl
   |bools l=>exact hv.aX rfl
   |lst l=>
    simp only [Cs.len] at hj;simp only [Cs.get,zzB,zzI hj,Option.getD_some] at hv⊢;exact hv.mv (List.all_eq_true.1 iG _ (List.getElem_mem hj))
  |gmap t ck l=>
   obtain ⟨es,k1,k2,k3⟩:=hr;exact ⟨es,k1,k2,fun j e q he hl=>let ⟨g1,g2,g3⟩:=k3 j e q he hl;⟨g1,g2,g3.mv (List.all_eq_true.1 iG q (List.mem_of_getElem? hl))⟩⟩
  |iter mid s sn la=>
   obtain ⟨_,k2,k3⟩:=hr;exact ⟨Option.isSome_iff_exists.1 iG,k2,k3⟩
  |imap t l=>
   obtain ⟨k0,es,ck,k1,k2,k3⟩:=hr;exact ⟨k0,es,ck,k1,k2,fun j e k x he hl=>let ⟨g1,g2,g3⟩:=k3 j e k x he hl;⟨g1,g2.mv (List.all_eq_true.1 iG (k,x) (List.mem_of_getElem? hl)),g3⟩⟩
  |fmap t c=>exact hr
 ·rcases hf t with e|⟨_,e⟩
  ·rw [e];exact .any _
  ·exact hv.mv e
theorem Wk.uD {F A fr:Fr} {H:Hp} (hA: ∀q∈A,fget F q.1=q.2/\q.1<1000000) (h2: ∀t,1000000<=t->fget F t=fget (lft fr) t):Wk F H (A++lft fr) H:=by
 intro B w0 Mx N w ρ a hs;refine ⟨ρ,hs.vr fun t=>?_⟩;have key: ∀(A:Fr),(∀q∈A,fget F q.1=q.2/\q.1<1000000)->fget (A++lft fr) t= .any\/fget (A++lft fr) t=fget F t:=by
  intro A
  induction A with
  |nil=>
   intro _;rw [List.nil_append];rcases Nat.lt_or_ge t 1000000 with h|h
   ·left;rw [sM,if_neg (by omega)]
   ·right;rw [h2 t h]
  |cons q A ih=>
   intro h1;obtain ⟨t',x⟩:=q;rw [List.cons_append];simp only [fget]
   split
   ·rename_i e;subst e;right;exact (h1 (t',x) (zzD ..)).1.symm
   ·exact ih fun q hq=>h1 q (zzE _ hq)
 exact key A hA
structure PE where
 key:ByteArray
 lo:Int
 cs:List Int
def gmE:Nat->List PE->List (ByteArray×Nat×AV)
 |_,[]=>[]
 |i,g::G=>(g.key,i, .agg [I g.lo, .sl 1 (i+10) 0 g.cs.length])::gmE (i+1) G
def dH:Nat->List PE->Hp
 |_,[]=>[]
 |i,g::G=>(i+10, .cells 3 (.ints g.cs))::dH (i+1) G
def ei:Nat->List PE->List (ByteArray×Nat×AV)
 |_,[]=>[]
 |i,g::G=>(g.key,i,tpA g.lo g.cs)::ei (i+1) G
theorem zZ: ∀(G:List PE) (i k:Nat),hget (dH i G) k=if i+10<=k then (G[k-10-i]?).map fun g=> .cells 3 (.ints g.cs) else none
 |[],i,k=>by simp [dH,hget]
 |g::G,i,k=>by
  simp only [dH,hget];by_cases e:i+10=k
  ·subst e;simp
  ·rw [if_neg e,zZ G (i+1) k];by_cases h:i+10<=k
   ·rw [if_pos h,if_pos (by omega)]
    have:k-10-i=(k-10-(i+1))+1:=by omega
    rw [this,List.getElem?_cons_succ]
   ·rw [if_neg h,if_neg (by omega)]
theorem dc {G:List PE} {j:Nat} {g:PE} (h:G[j]?=some g):hget (dH 0 G) (j+10)=some (.cells 3 (.ints g.cs)):=by
 rw [zZ,if_pos (by omega),show j+10-10-0=j by omega,h];rfl
theorem O1 {G:List PE} {k:Nat} (h:k<10\/G.length+10<=k):hget (dH 0 G) k=none:=by
 rw [zZ]
 split
 ·rw [List.getElem?_eq_none (by omega)];rfl
 ·rfl
theorem qM: ∀(G:List PE) (i:Nat),hnew (dH i G)<=i+G.length+10
 |[],i=>by simp [dH,hnew]
 |g::G,i=>by
  have:=qM G (i+1)
  simp only [dH,hnew,zzG];omega
theorem O0 (s:ByteArray) (lo:Int) (c:List Int): ∀(G:List PE) (i j:Nat),j<G.length->hset (dH i G) (i+j+10) (.cells 3 (.ints c))=dH i (G.set j ⟨s,lo,c⟩)
 |[],i,j,h=>by simp at h
 |g::G,i,0,h=>by simp [dH,hset]
 |g::G,i,j+1,h=>by
  simp only [dH,hset,List.set_cons_succ];rw [if_neg (by omega)]
  have:=O0 s lo c G (i+1) j (by simpa using h)
  rw [←this];congr 2;omega
def jX (G:List PE):Prop:=(G.map (·.key)).Nodup
theorem Qg: ∀(G:List PE) (i:Nat) (s:ByteArray),(∀g∈G,g.key≠s)->kj (gmE i G) s=none
 |[],_,_,_=>rfl
 |g::G,i,s,h=>by
  have h1:=h g (zzD ..)
  have:=Qg G (i+1) s fun g hg=>h g (zzE _ hg)
  unfold kj at this⊢;simp only [gmE,List.find?_cons];rw [show decide (g.key=s)=false by simpa using h1];exact this
theorem H7: ∀(G:List PE) (i j:Nat) (g:PE),jX G->G[j]?=some g->kj (gmE i G) g.key=some (g.key,i+j, .agg [I g.lo, .sl 1 (i+j+10) 0 g.cs.length])
 |[],_,_,_,_,h=>by simp at h
 |a::G,i,0,g,hk,h=>by
  simp only [List.getElem?_cons_zero,Option.some.injEq] at h;subst h;simp [kj,gmE]
 |a::G,i,j+1,g,hk,h=>by
  simp only [List.getElem?_cons_succ] at h;unfold jX at hk;rw [List.map_cons,List.nodup_cons] at hk;have av:a.key≠g.key:=fun e=>hk.1 (e▸List.mem_map.2 ⟨g,List.mem_of_getElem? h,rfl⟩)
  have:=H7 G (i+1) j g hk.2 h
  unfold kj at this⊢;simp only [gmE,List.find?_cons];rw [show decide (a.key=g.key)=false by simpa using av,this];simp only [show i+1+j=i+(j+1) by omega]
theorem Nf: ∀(G:List PE) (i:Nat) (g:PE),gmE i (G++[g])=gmE i G++[(g.key,i+G.length, .agg [I g.lo, .sl 1 (i+G.length+10) 0 g.cs.length])]
 |[],i,g=>by simp [gmE]
 |a::G,i,g=>by
  rw [List.cons_append];simp only [gmE,List.cons_append,Nf G (i+1) g,zzG];simp only [show i+1+G.length=i+(G.length+1) by omega]
theorem D5 {φ:AV->AV}: ∀(G:List PE) (i:Nat),(∀k lo n,i<=k->k<i+G.length->φ (.agg [I lo, .sl 1 (k+10) 0 n])= .agg [I lo, .sl 1 (k+10) 0 n])->(gmE i G).map (fun q=>(q.1,q.2.1,φ q.2.2))=gmE i G
 |[],_,_=>rfl
 |a::G,i,h=>by
  simp only [gmE,List.map_cons];rw [h i _ _ (zzA _) (by simp),D5 G (i+1) fun k lo n h1 h2=>h k lo n (by omega) (by simp only [zzG];omega)]
theorem Gn {φ:AV->AV} {v:AV} {lo:Int} {cs:List Int}: ∀(G:List PE) (i j:Nat) (g:PE),jX G->G[j]?=some g->φ v= .agg [I lo, .sl 1 (i+j+10) 0 cs.length]->(∀k lo n,i<=k->k<i+G.length->k≠i+j->φ (.agg [I lo, .sl 1 (k+10) 0 n])= .agg [I lo, .sl 1 (k+10) 0 n])->
  (uH (gmE i G) g.key v).map (fun q=>(q.1,q.2.1,φ q.2.2))=gmE i (G.set j ⟨g.key,lo,cs⟩)
 |[],_,_,_,_,h,_,_=>by simp at h
 |a::G,i,0,g,hk,h,hv,hφ=>by
  simp only [List.getElem?_cons_zero,Option.some.injEq] at h;subst h;simp only [gmE,uH,if_true,List.map_cons,List.set_cons_zero,hv,Nat.add_zero];rw [D5 G (i+1) fun k lo n h1 h2=>hφ k lo n (by omega) (by simp only [zzG];omega) (by omega)]
 |a::G,i,j+1,g,hk,h,hv,hφ=>by
  simp only [List.getElem?_cons_succ] at h;unfold jX at hk;rw [List.map_cons,List.nodup_cons] at hk;have av:a.key≠g.key:=fun e=>hk.1 (e▸List.mem_map.2 ⟨g,List.mem_of_getElem? h,rfl⟩);simp only [gmE,uH,if_neg av,List.map_cons,List.set_cons_succ]
  rw [hφ i _ _ (zzA _) (by simp) (by omega),Gn (lo:=lo) (cs:=cs) G (i+1) j g hk.2 h (by rw [hv];simp only [show i+(j+1)=i+1+j by omega]) fun k lo n h1 h2 h3=>hφ k lo n (by omega) (by simp only [zzG];omega) (by omega)]
theorem D4: ∀(G:List PE) (i:Nat) (q:ByteArray×Nat×AV),q∈gmE i G-> ∃k g,G[k]?=some g/\q=(g.key,i+k, .agg [I g.lo, .sl 1 (i+k+10) 0 g.cs.length])
 |[],_,_,h=>by simp [gmE] at h
 |a::G,i,q,h=>by
  simp only [gmE] at h;rcases List.mem_cons.1 h with rfl|h
  ·exact ⟨0,a,rfl,rfl⟩
  ·obtain ⟨k,g,h1,h2⟩:=D4 G (i+1) q h;exact ⟨k+1,g,h1,by rw [h2];simp only [show i+1+k=i+(k+1) by omega]⟩
theorem oh: ∀(G:List PE) (i:Nat) (q:ByteArray×Nat×AV),q∈ei i G-> ∃k g,G[k]?=some g/\q=(g.key,i+k,tpA g.lo g.cs)
 |[],_,_,h=>by simp [ei] at h
 |a::G,i,q,h=>by
  simp only [ei] at h;rcases List.mem_cons.1 h with rfl|h
  ·exact ⟨0,a,rfl,rfl⟩
  ·obtain ⟨k,g,h1,h2⟩:=oh G (i+1) q h;exact ⟨k+1,g,h1,by rw [h2];simp only [show i+1+k=i+(k+1) by omega]⟩
theorem RB: ∀(G:List PE) (i k:Nat) (g:PE),G[k]?=some g->(g.key,i+k,tpA g.lo g.cs)∈ei i G
 |[],_,_,_,h=>by simp at h
 |a::G,i,0,g,h=>by
  simp only [List.getElem?_cons_zero,Option.some.injEq] at h;subst h;exact zzD ..
 |a::G,i,k+1,g,h=>by
  simp only [List.getElem?_cons_succ] at h
  have:=RB G (i+1) k g h
  rw [show i+1+k=i+(k+1) by omega] at this;exact zzE _ this
theorem Nd (G0:List PE): ∀(G:List PE) (i:Nat),(∀k g,G[k]?=some g->G0[i+k]?=some g)->(gmE i G).map (fun q=>(q.1,q.2.1,aI (dH 0 G0) 4 q.2.2))=ei i G
 |[],_,_=>rfl
 |a::G,i,h=>by
  have h0:=dc (h 0 a rfl);rw [Nat.add_zero] at h0;simp only [gmE,ei,List.map_cons];rw [Nd G0 G (i+1) fun k g hk=>by rw [show i+1+k=i+(k+1) by omega];exact h (k+1) g hk];congr 3;simp only [aI,List.map_cons,List.map_nil,h0,snap];simp [Cs.mj,Cs.drop,Cs.take]
abbrev pc (sd:List PE) (sn:List Nat) (G R:List PE):Hp:=(1000004, .iter 2 sd.length sn sd.length)::(1000003, .cells 138 (.lst [.mp 1000002]))::(1000002, .gmap 138 G.length (gmE 0 G))::(2, .gmap 138 sd.length (ei 0 sd))::(1, .cells 29 (.lst [.bool false, .nils]))::(1000000, .gone)::dH 0 R
abbrev aM (sd:List PE) (sn:List Nat) (G:List PE):Hp:=pc sd sn G G
theorem Uf {α:Type} {p:Prop} [Decidable p] {a:α} {b:Option α} (h:b.isSome=true):(if p then some a else b).isSome=true:=by split<;>first|rfl|exact h
theorem F0 (sd:List PE) (sn:List Nat) (G:List PE): ∀i o,hget (aM sd sn G) i=some o->sO (aM sd sn G) o=true:=by
 intro i o h;have wU: ∀k g,G[k]?=some g->(hget (aM sd sn G) (k+10)).isSome=true:=fun k g hk=>by
  simp only [hget]
  repeat refine Uf ?_
  rw [dc hk];rfl
 simp only [hget] at h
 split at h
 ·cases h;rfl
 split at h
 ·cases h;rfl
 split at h
 ·cases h;refine List.all_eq_true.2 fun q hq=>?_;obtain ⟨k,g,h1,rfl⟩:=D4 _ _ _ hq
  have:=wU k g h1
  simp only [Nat.zero_add] at this⊢;simp only [s3,s2,s1,List.all_cons,List.all_nil,this,Bool.and_self]
 split at h
 ·cases h;refine List.all_eq_true.2 fun q hq=>?_;obtain ⟨k,g,h1,rfl⟩:=oh _ _ _ hq;rfl
 split at h
 ·cases h;rfl
 split at h
 ·cases h;rfl
 ·rw [zZ] at h
  split at h
  ·obtain ⟨g,_,rfl⟩:=Option.map_eq_some_iff.1 h;rfl
  ·cases h
def de:Hp:=[(1, .gone),(2, .gone),(1000002, .gone),(1000003, .gone),(1000004, .gone)]
theorem yr {k:Nat} (h:(hget de k).isSome=true):k=1\/k=2\/k=1000002\/k=1000003\/k=1000004:=by
 simp only [de,hget] at h
 split at h
 ·omega
 split at h
 ·omega
 split at h
 ·omega
 split at h
 ·omega
 split at h
 ·omega
 ·cases h
theorem u9 {H H':Hp} (hm: ∀k,(hget H k).isSome=true->(hget H' k).isSome=true): ∀(x:AV),s1 H x=true->s1 H' x=true
 | .ptr i _,h=>hm i h
 | .sl _ i _ _,h=>hm i h
 | .mp i,h=>hm i h
 | .agg _,h=>h
 | .tup _,h=>h
 | .fn _ _,h=>h
 | .any,h=>h
 | .int _ _,h=>h
 | .bool _,h=>h
 | .str _,h=>h
 | .nils,h=>h
 | .ro _ _ _,h=>h
 | .rp _ _,h=>h
theorem Gm {H H':Hp} (hm: ∀k,(hget H k).isSome=true->(hget H' k).isSome=true): ∀(x:AV),s2 H x=true->s2 H' x=true
 | .ptr i o,h=>u9 hm (.ptr i o) h
 | .sl e i o l,h=>u9 hm (.sl e i o l) h
 | .mp i,h=>u9 hm (.mp i) h
 | .agg xs,h=>List.all_eq_true.2 fun y hy=>u9 hm y (List.all_eq_true.1 h y hy)
 | .tup _,h=>h
 | .fn _ xs,h=>List.all_eq_true.2 fun y hy=>u9 hm y (List.all_eq_true.1 h y hy)
 | .any,h=>h
 | .int _ _,h=>h
 | .bool _,h=>h
 | .str _,h=>h
 | .nils,h=>h
 | .ro _ _ _,h=>h
 | .rp _ _,h=>h
theorem sF {H H':Hp} (hm: ∀k,(hget H k).isSome=true->(hget H' k).isSome=true): ∀(x:AV),s3 H x=true->s3 H' x=true
 | .ptr i o,h=>u9 hm (.ptr i o) h
 | .sl e i o l,h=>u9 hm (.sl e i o l) h
 | .mp i,h=>u9 hm (.mp i) h
 | .agg xs,h=>List.all_eq_true.2 fun y hy=>Gm hm y (List.all_eq_true.1 h y hy)
 | .tup xs,h=>List.all_eq_true.2 fun y hy=>Gm hm y (List.all_eq_true.1 h y hy)
 | .fn _ xs,h=>List.all_eq_true.2 fun y hy=>Gm hm y (List.all_eq_true.1 h y hy)
 | .any,h=>h
 | .int _ _,h=>h
 | .bool _,h=>h
 | .str _,h=>h
 | .nils,h=>h
 | .ro _ _ _,h=>h
 | .rp _ _,h=>h
theorem zY {i j n:Nat} {xs:List AV} (h: ∀x∈xs,swV i j n x=x):xs.map (swV i j n)=xs:=by
 conv=>rhs;rw [←List.map_id xs]
 exact List.map_congr_left h
section
variable {i j:Nat} (hi:(hget de i).isSome=false) (hj:(hget de j).isSome=false)
include hi hj
theorem Gl (k:Nat) (hk:(hget de k).isSome=true):swI i j k=k:=by
 unfold swI;rw [if_neg (fun e=>by rw [e,hi] at hk;cases hk),if_neg (fun e=>by rw [e,hj] at hk;cases hk)]
theorem u7 (n:Nat): ∀(x:AV),s1 de x=true->swV i j (n+1) x=x
 | .ptr k o,h=>by simp only [swV,Gl hi hj k h]
 | .sl e k o l,h=>by simp only [swV,Gl hi hj k h]
 | .mp k,h=>by simp only [swV,Gl hi hj k h]
 | .agg _,h=>by cases h
 | .tup _,h=>by cases h
 | .fn _ _,h=>by cases h
 | .any,h=>rfl
 | .int _ _,h=>rfl
 | .bool _,h=>rfl
 | .str _,h=>rfl
 | .nils,h=>rfl
 | .ro _ _ _,h=>rfl
 | .rp _ _,h=>rfl
theorem Gk (n:Nat): ∀(x:AV),s2 de x=true->swV i j (n+2) x=x
 | .agg xs,h=>by show AV.agg (xs.map (swV i j (n+1)))=_;rw [zY fun y hy=>u7 hi hj n y (List.all_eq_true.1 h y hy)]
 | .tup _,h=>by cases h
 | .fn f xs,h=>by show AV.fn f (xs.map (swV i j (n+1)))=_;rw [zY fun y hy=>u7 hi hj n y (List.all_eq_true.1 h y hy)]
 | .ptr k o,h=>u7 hi hj (n+1) (.ptr k o) h
 | .sl e k o l,h=>u7 hi hj (n+1) (.sl e k o l) h
 | .mp k,h=>u7 hi hj (n+1) (.mp k) h
 | .any,h=>rfl
 | .int _ _,h=>rfl
 | .bool _,h=>rfl
 | .str _,h=>rfl
 | .nils,h=>rfl
 | .ro _ _ _,h=>rfl
 | .rp _ _,h=>rfl
theorem JP (n:Nat): ∀(x:AV),s3 de x=true->swV i j (n+3) x=x
 | .agg xs,h=>by show AV.agg (xs.map (swV i j (n+2)))=_;rw [zY fun y hy=>Gk hi hj n y (List.all_eq_true.1 h y hy)]
 | .tup xs,h=>by show AV.tup (xs.map (swV i j (n+2)))=_;rw [zY fun y hy=>Gk hi hj n y (List.all_eq_true.1 h y hy)]
 | .fn f xs,h=>by show AV.fn f (xs.map (swV i j (n+2)))=_;rw [zY fun y hy=>Gk hi hj n y (List.all_eq_true.1 h y hy)]
 | .ptr k o,h=>u7 hi hj (n+2) (.ptr k o) h
 | .sl e k o l,h=>u7 hi hj (n+2) (.sl e k o l) h
 | .mp k,h=>u7 hi hj (n+2) (.mp k) h
 | .any,h=>rfl
 | .int _ _,h=>rfl
 | .bool _,h=>rfl
 | .str _,h=>rfl
 | .nils,h=>rfl
 | .ro _ _ _,h=>rfl
 | .rp _ _,h=>rfl
end
theorem Oy {k:Nat} (h:1000005<=k\/(3<=k/\k<1000000)):(hget de k).isSome=false:=by
 cases hq:(hget de k).isSome with
 |false=>rfl
 |true=>have:=yr hq;omega
theorem Di {fr:Fr} {H:Hp} (h:fr.all (fun q=>s3 H q.2)=true) (t:Nat):fget fr t= .any\/s3 H (fget fr t)=true:=by
 induction fr with
 |nil=>exact .inl rfl
 |cons q fr ih=>
  obtain ⟨s,x⟩:=q;simp only [List.all_cons,Bool.and_eq_true] at h;simp only [fget]
  split
  ·exact .inr h.1
  ·exact ih h.2
theorem FT {sd G:List PE} {sn:List Nat} {F fr:Fr} {X:Hp} (aD r:Nat) {l:List (ByteArray×Nat×AV)} (hn:1000005<=aD) (hr:10<=r/\r<1000000) (hG:G.length<=900000)
  (h4:hget X 1000004=some (.iter 2 sd.length sn sd.length)) (h3:hget X 1000003=some (.cells 138 (.lst [.mp 1000002]))) (h2:hget X 1000002=some (.gmap 138 G.length l)) (hl:l.map (fun q=>(q.1,q.2.1,swV aD r 4 q.2.2))=gmE 0 G)
  (h5:hget X 2=some (.gmap 138 sd.length (ei 0 sd))) (h1:hget X 1=some (.cells 29 (.lst [.bool false, .nils]))) (h0:hget X 1000000=some .gone)
  (wU: ∀k g,G[k]?=some g->hget X (swI aD r (k+10))=some (.cells 3 (.ints g.cs))) (dx:fr.all (fun q=>s3 de q.2)=true) (hF: ∀t,1000000<=t->fget F t=fget (lft fr) t):Wk F X (lft fr) (aM sd sn G):=by
 have on:=Oy (k:=aD) (.inl hn);have or':=Oy (k:=r) (.inr ⟨by omega,hr.2⟩);have eH: ∀k,k≠aD->k≠r->swI aD r k=k:=fun k a b=>by unfold swI;rw [if_neg a,if_neg b]
 refine (Wk.swap aD r F X).trans (Wk.tM (fun t=>?_) fun i o h=>⟨?_,F0 sd sn G i o h⟩)
 ·rcases Nat.lt_or_ge t 1000000 with ht|ht
  ·left;rw [sM,if_neg (by omega)]
  ·rw [HD,hF t ht,sM,if_pos ht];rcases Di dx (t-1000000) with g|g
   ·left;exact g
   ·right;refine ⟨(JP on or' 1 _ g).symm,sF (fun k hk=>?_) _ g⟩;rcases yr hk with e|e|e|e|e<;>subst e<;>rfl
 ·rw [PS];simp only [hget] at h
  split at h
  ·rename_i e;subst e;rw [eH _ (by omega) (by omega),h4];cases h;simp only [Option.map_some,swO];rw [eH _ (by omega) (by omega)]
  split at h
  ·rename_i e;subst e;rw [eH _ (by omega) (by omega),h3];cases h;simp only [Option.map_some,swO,List.map_cons,List.map_nil,swV];rw [eH _ (by omega) (by omega)]
  split at h
  ·rename_i e;subst e;rw [eH _ (by omega) (by omega),h2];cases h;simp only [Option.map_some,swO,hl]
  split at h
  ·rename_i e;subst e;rw [eH _ (by omega) (by omega),h5];cases h;simp only [Option.map_some,swO]
   congr 2
   conv=>rhs;rw [←List.map_id (ei 0 sd)]
   exact List.map_congr_left fun q hq=>by obtain ⟨k,g,_,rfl⟩:=oh _ _ _ hq;rfl
  split at h
  ·rename_i e;subst e;rw [eH _ (by omega) (by omega),h1];cases h;rfl
  split at h
  ·rename_i e;subst e;rw [eH _ (by omega) (by omega),h0];cases h;rfl
  ·rw [zZ] at h
   split at h
   ·rename_i hi
    obtain ⟨g,g1,rfl⟩:=Option.map_eq_some_iff.1 h
    have:=wU (i-10-0) g g1
    rw [show i-10-0+10=i by omega] at this;rw [this];rfl
   ·cases h
section
variable {P:Program} {N:Nat} {fr:Fr} {H:Hp} {K:Fr->Hp->Prop} {o:Oper}
theorem kH.copy {t e id rid n m a:Nat} {s x:Operand} {l ls:List Int} (ho:o.op= .call {callee:= .builtin .copy,args:= #[s,x],argTypes:= #[t,t]}) (hd:dok o.dst N=true) (c7:tk P t= .slice e) (fF:tsz P e=some 1)
  (hs:evA fr s= .sl 1 id a n) (hx:evA fr x= .sl 1 rid 0 m) (h1:hget H id=some (.cells 3 (.ints l))) (h2:hget H rid=some (.cells 3 (.ints ls))) (hn:a+n<=l.length) (hm:ls.length=m) (E7:m<=n)
  (h:K (fput fr o.dst (I m)) (hset H id (.cells 3 (.ints ((List.range l.length).map fun i=>if a<=i/\i-a<m then ls.getD (i-a) 0 else l.getD i 0))))):kH P N o K fr H:=by
 intro B w0 Mx w ρ ac cA Q;have sV:=cA.ev s;have SN:=cA.ev x;rw [hs] at sV;rw [hx] at SN;obtain ⟨A,c,news,e1,kr,jk,qt,qq,qW⟩:=yJ (es:=1) (q:=0+m*1<=(Cs.ints ls).len) (m:=m) (d:=some ((Cs.ints ls).mj 0 (m*1))) cA.objs SN (by simp only [srcF,if_true,h2]) (by simp [Cs.len,hm]);have iJ:news.length=m:=by omega
 obtain ⟨eI,arr,hb,hl,dZ⟩:=cA.objs id _ h1;simp only [Cs.len] at hl dZ;cases Lj:ac.eval s with
 |slice ad len cap=>
  rw [Lj] at sV;cases sV with
  |sl es bC mE len' cap' hdd hc aK t' ad' ha ky hr=>
   have b8: ∀z∈news,fh z:=fun z hz=>by
    obtain ⟨i,hi⟩:=List.mem_iff_getElem?.1 hz;exact (qW i z hi).fh rfl
   have CJ:(ρ id).add a=⟨(ρ id).block,(ρ id).off+a,none⟩:=qk eI a;obtain ⟨w',ZC,r1,r2,r3,r4,r5,r6,r7,r8,r9⟩:=AA (P:=P) (b:=(ρ id).block) (t:=3) (o:=(ρ id).off+a) news 0 w arr hb (by omega) b8;have lf:=cA.change (c':= .ints ((List.range l.length).map fun i=>if a<=i/\i-a<m then ls.getD (i-a) 0 else l.getD i 0)) h1 hb r2 r3 r4 r5 r6 r7 r8 (by simp [Cs.len];omega) (fun j hj=>by
    simp only [Cs.len,List.length_map,zzJ] at hj;rw [r9];simp only [Cs.get,zzB,List.getElem?_map,List.getElem?_range hj,Option.map_some,Option.getD_some];by_cases c1:a<=j/\j-a<m
    ·rw [if_pos c1,if_pos (by omega)];have e2:(ρ id).off+j-((ρ id).off+a+0)=j-a:=by omega
     rw [e2];have ax:j-a<news.length:=by omega
     refine ⟨news[j-a],zzI ax,?_⟩
     have:=qW (j-a) _ (zzI ax)
     simp only [iW,Cs.get,Cs.mj,Cs.drop,Cs.take,zzB,List.drop_zero,List.getElem?_take] at this;rw [if_pos (by omega)] at this;exact this
    ·rw [if_neg c1,if_neg (by omega)];obtain ⟨u,g1,g2⟩:=dZ j hj;exact ⟨u,g1,by simpa [Cs.get,zzB] using g2⟩)
   have hf:=Is (P:=P) (w:=w) (es:=1) (n:=m) (c:=c) (A:=A) (news:=news) (by omega) qq qt;have aF:(execOp ac.eval o).run P w= .ok (.value (goInt m)) w':=by
    have aY:(storeCells ad' news 0).run P w= .ok () w':=by
     by_cases oI:0<cap
     ·rw [ha oI,CJ];exact r1
     ·have iK:news=[]:=List.eq_nil_of_length_eq_zero (by omega);subst iK;simp [storeCells] at r1⊢;exact r1
    have rC:Nat.min m n=m:=Nat.min_eq_left E7;have oH:(Builtin.copy_ #[t,t] o.type #[ac.eval s,ac.eval x]).run P w= .ok (goInt m) w':=by
     simp [Builtin.copy_,run_underlying (gX c7),Lj,e1,Builtin.lenOf,kL fF,rC,hf,aY]
    simp [execOp,ho,resolve,invoke,builtin,oH]
   exact Oper.cL aF ⟨ρ,_,_,h,lf.put hd (.int .i64 m)⟩
 |_=>rw [Lj] at sV;cases sV
theorem dS.copy {ops:Array Oper} {rr:List Oper} {K:Fr->Hp->Prop} {t e id rid n m a:Nat} {s x:Operand} {l ls:List Int} (ho:o.op= .call {callee:= .builtin .copy,args:= #[s,x],argTypes:= #[t,t]}) (hd:dok o.dst N=true) (c7:tk P t= .slice e) (fF:tsz P e=some 1)
  (hs:evA fr s= .sl 1 id a n) (hx:evA fr x= .sl 1 rid 0 m) (h1:hget H id=some (.cells 3 (.ints l))) (h2:hget H rid=some (.cells 3 (.ints ls))) (hn:a+n<=l.length) (hm:ls.length=m) (E7:m<=n)
  (h:awL P N ops rr (fput fr o.dst (I m)) (hset H id (.cells 3 (.ints ((List.range l.length).map fun i=>if a<=i/\i-a<m then ls.getD (i-a) 0 else l.getD i 0)))) K):dS P N ops fr H K o rr:=by
 refine dS.vy ?_ ?_ ?_ ?_
 ·rw [ho];rfl
 ·rw [ho];rfl
 ·rw [ho];rfl
 ·unfold awX;rw [ho];exact ⟨rfl,kH.copy (K:=fun fr' H'=>awL P N ops rr fr' H' K) ho hd c7 fF hs hx h1 h2 hn hm E7 h⟩
theorem AZ {α:Type} {a:Array α} (h:a.size=4): ∃x0 x1 x2 x3,a= #[x0,x1,x2,x3]:=by
 obtain ⟨l⟩:=a
 match l,h with
 |[x0,x1,x2,x3],_=>exact ⟨x0,x1,x2,x3,rfl⟩
theorem AY {α:Type} {a:Array α} (h:a.size=8): ∃x0 x1 x2 x3 x4 x5 x6 x7,a= #[x0,x1,x2,x3,x4,x5,x6,x7]:=by
 obtain ⟨l⟩:=a
 match l,h with
 |[x0,x1,x2,x3,x4,x5,x6,x7],_=>exact ⟨x0,x1,x2,x3,x4,x5,x6,x7,rfl⟩
theorem VR.I4 {w:World} {M:Nat->Prop} {ρ:Nat->Addr} {D:Nat->Prop} {v:Value} {a b c d:Int} (h:VR w M ρ D v (.agg [I a,I b,I c,I d])):v= .agg #[.int .i64 a, .int .i64 b, .int .i64 c, .int .i64 d]:=by
 obtain ⟨vs,rfl,hl,hx⟩:=h.aL
 match vs,hl with
 |[v0,v1,v2,v3],_=>
  have h0:=(hx 0 v0 _ rfl rfl).an;have h1:=(hx 1 v1 _ rfl rfl).an;have h2:=(hx 2 v2 _ rfl rfl).an;have h3:=(hx 3 v3 _ rfl rfl).an;subst h0 h1 h2 h3;rfl
theorem VR.Sz {w:World} {M:Nat->Prop} {ρ:Nat->Addr} {D:Nat->Prop} (l:List Int):VR w M ρ D (.agg (l.map (Value.int .i64)).toArray) (.agg (l.map I)):=by
 refine .agg _ _ (by simp) fun i v x hv hx=>?_;simp only [List.getElem?_map] at hv hx;cases hq:l[i]? with
 |none=>rw [hq] at hv;cases hv
 |some n=>rw [hq] at hv hx;cases hv;cases hx;exact .int _ _
theorem IJ (k:IntKind) (n:Int):(Value.int k n).cells= #[.int k n]:=rfl
theorem II (a:Array Value):(Value.agg a).cells=a:=rfl
theorem dS.sq {ops:Array Oper} {rr:List Oper} {K:Fr->Hp->Prop} {t e:Nat} {x0 x1 x2 x3:Operand} {a b c d:Int} (ho:o.op= .build t #[(0,x0),(1,x1),(2,x2),(3,x3)]) (hd:dok o.dst N=true) (c7:tk P t= .arr 4 e) (fF:tsz P e=some 1) (hz:tze P t=some [I 0,I 0,I 0,I 0])
  (h0:evA fr x0=I a) (h1:evA fr x1=I b) (h2:evA fr x2=I c) (h3:evA fr x3=I d) (h:awL P N ops rr (fput fr o.dst (.agg [I a,I b,I c,I d])) H K):dS P N ops fr H K o rr:=by
 refine dS.vy ?_ ?_ ?_ ?_
 ·rw [ho];rfl
 ·rw [ho];simp only [quF,yif,c7]
 ·rw [ho];rfl
 unfold awX;rw [ho];refine ⟨rfl,fun B w0 Mx w ρ ac cA Q=>?_⟩;have e0:=(h0▸cA.ev x0).an;have e1:=(h1▸cA.ev x1).an;have e2:=(h2▸cA.ev x2).an;have e3:=(h3▸cA.ev x3).an;obtain ⟨i,zv,i1,i2,i3⟩:=vg hz;obtain ⟨z0,z1,z2,z3,vz⟩:=AZ (a:=zv.cells) (by have:=congrArg List.length i3;simpa using this)
 have aF:(execOp ac.eval o).run P w= .ok (.value (.agg #[.int .i64 a, .int .i64 b, .int .i64 c, .int .i64 d])) w:=by
  simp [execOp,ho,Instr.build,zeroValue,typeInfo,i1,i2,run_underlying (wo c7),kL fF,vz,Instr.fill,e0,e1,e2,e3,IJ]
 exact Oper.cL aF ⟨ρ,_,_,h,cA.put hd (VR.Sz [a,b,c,d])⟩
theorem dS.xB {ops:Array Oper} {rr:List Oper} {K:Fr->Hp->Prop} {t e:Nat} {x0 x1:Operand} {a b c d a' b' c' d':Int} (ho:o.op= .build t #[(0,x0),(1,x1)]) (hd:dok o.dst N=true) (c7:tk P t= .arr 2 e) (fF:tsz P e=some 4) (hz:tze P t=some [I 0,I 0,I 0,I 0,I 0,I 0,I 0,I 0])
  (h0:evA fr x0= .agg [I a,I b,I c,I d]) (h1:evA fr x1= .agg [I a',I b',I c',I d']) (h:awL P N ops rr (fput fr o.dst (.agg [I a,I b,I c,I d,I a',I b',I c',I d'])) H K):dS P N ops fr H K o rr:=by
 refine dS.vy ?_ ?_ ?_ ?_
 ·rw [ho];rfl
 ·rw [ho];simp only [quF,yif,c7]
 ·rw [ho];rfl
 unfold awX;rw [ho];refine ⟨rfl,fun B w0 Mx w ρ ac cA Q=>?_⟩;have e0:=(h0▸cA.ev x0).I4;have e1:=(h1▸cA.ev x1).I4;obtain ⟨i,zv,i1,i2,i3⟩:=vg hz;obtain ⟨z0,z1,z2,z3,z4,z5,z6,z7,vz⟩:=AY (a:=zv.cells) (by have:=congrArg List.length i3;simpa using this)
 have aF:(execOp ac.eval o).run P w= .ok (.value (.agg #[.int .i64 a, .int .i64 b, .int .i64 c, .int .i64 d, .int .i64 a', .int .i64 b', .int .i64 c', .int .i64 d'])) w:=by
  simp [execOp,ho,Instr.build,zeroValue,typeInfo,i1,i2,run_underlying (wo c7),kL fF,vz,Instr.fill,e0,e1,II]
 exact Oper.cL aF ⟨ρ,_,_,h,cA.put hd (VR.Sz [a,b,c,d,a',b',c',d'])⟩
end
def xS:List (List Nat):=[[58,59,60,61,62,64,65],[57,60,64,65],[57,60,64,65],[57,58,59,64,65],[57,64,65],[57,64,65],[64,65],[57,58,59,60,61,62,63],[57,58,59,60,61,62,63],[]]
def RA:Tr:=trP [0,3] (.node [(1, .node [(2, .node [(4, .node [(5,trD [6,7,8,9]),(7, .node [(5,trD [6,8,9]),(8,trD [5,6,9])])]),(7, .node [(4, .node [(5,trD [6,8,9]),(8,trD [5,6,9])]),(8,trD [4,5,6,9])])]),(7, .node [(2, .node [(4, .node [(5,trD [6,8,9]),(8,trD [5,6,9])]),(8,trD [4,5,6,9])]),(8,trD [2,4,5,6,9])])]),(7, .node [(1, .node [(2, .node [(4, .node [(5,trD [6,8,9]),(8,trD [5,6,9])]),(8,trD [4,5,6,9])]),(8,trD [2,4,5,6,9])]),(8,trD [1,2,4,5,6,9])])])
theorem yvc: ∀fr:Fr,unl (lft fr)=fr
 |[]=>rfl
 |(s,x)::r=>by simp [lft,unl,yvc r]
attribute [go_sem] yvc
def gp (r:List Int) (b:Nat) (q:List Int) (k:Nat):List Int:=(List.range r.length).map fun i=>r.getD i 0+if b<=i/\i-b<k then q.getD (i-b) 0 else 0
theorem tq (r:List Int) (b:Nat) (q:List Int) (k:Nat):(gp r b q k).length=r.length:=by simp [gp]
theorem Q0 (r:List Int) (b:Nat) (q:List Int):gp r b q 0=r:=by
 apply List.ext_getElem?;intro i;by_cases h:i<r.length<;>simp [gp,h]
theorem zB (r:List Int) (b:Nat) (q:List Int) (k i:Nat) (h:i<r.length):(gp r b q k).getD i 0=r.getD i 0+if b<=i/\i-b<k then q.getD (i-b) 0 else 0:=by
 simp [gp,zzB,h]
theorem Ox (r:List Int) (b:Nat) (q:List Int) (k:Nat) (h:b+k<r.length):(gp r b q k).set (b+k) ((gp r b q k).getD (b+k) 0+q.getD k 0)=gp r b q (k+1):=by
 rw [zB _ _ _ _ _ h,if_neg (by omega)];apply List.ext_getElem?;intro i;rw [List.getElem?_set,tq];by_cases e:b+k=i
 ·subst e;rw [if_pos rfl,if_pos h];simp only [gp,List.getElem?_map,List.getElem?_range h,Option.map_some];rw [if_pos (by omega),show b+k-b=k by omega];simp
 ·rw [if_neg e];by_cases hi:i<r.length
  ·simp only [gp,List.getElem?_map,List.getElem?_range hi,Option.map_some]
   have:(b<=i/\i-b<k)=(b<=i/\i-b<k+1):=propext ⟨fun h=>by omega,fun h=>by omega⟩
   simp only [this]
  ·simp [gp,hi]
def dm (a:Nat) (p:List Int) (N:Nat):List Int:=(List.range N).map fun i=>if a<=i/\i-a<p.length then p.getD (i-a) 0 else 0
theorem wz (a:Nat) (p:List Int) (N:Nat):(dm a p N).length=N:=by simp [dm]
theorem WL (a:Nat) (p:List Int) (N:Nat):((List.range (List.replicate N (0:Int)).length).map fun i=>if a<=i/\i-a<p.length then p.getD (i-a) 0 else (List.replicate N (0:Int)).getD i 0)=dm a p N:=by
 unfold dm;rw [List.length_replicate];refine List.map_congr_left fun i hi=>?_
 have:=List.mem_range.1 hi
 simp [zzB,this]
theorem WK {α:Type} {l:List α} {j:Nat} {x:α} (h:l[j]?=some x):l.set j x=l:=by
 apply List.ext_getElem?;intro i;rw [List.getElem?_set]
 split
 ·rename_i e;subst e;rw [if_pos (List.getElem?_eq_some_iff.1 h).1,h]
 ·rfl
abbrev ER (g:PE) (lo:Int) (cs:List Int) (r:Nat):Hp:=[(1000006, .cells 137 (.lst [I g.lo, .sl 1 r 0 g.cs.length])),(1000005, .cells 137 (.lst [I lo,roI cs]))]
theorem UO (sd:List PE) (sn:List Nat) (G:List PE) (j b r:Nat) (g:PE) (cs:List Int) (hG:G.length<=900000) (hj:G[j]?=some g) (hr:r=j+10) (hb:b+cs.length<=g.cs.length) (hl:g.cs.length<=1000000) (iv: -1000000<=g.lo/\g.lo<=1000000)
  (gm: ∀i,-1152921504606846976<=g.cs.getD i 0/\g.cs.getD i 0<=1152921504606846976) (pG: ∀i,-1152921504606846976<=cs.getD i 0/\cs.getD i 0<=1152921504606846976) {fr:Fr} {K:AV->Fr->Hp->Prop}
  (hK:K (.agg [I g.lo, .sl 1 r 0 g.cs.length]) fr ([(1000009, .cells 137 (.lst [I g.lo, .sl 1 r 0 g.cs.length])),(1000008, .cells 137 (.lst [I (g.lo+2*(b:Int)),roI cs])),(1000007, .cells 137 (.lst [I g.lo, .sl 1 r 0 g.cs.length]))]++ER g (g.lo+2*(b:Int)) cs r++pc sd sn G (G.set j ⟨g.key,g.lo,gp g.cs b cs cs.length⟩))):
  gq Tryz.prog 112 [.agg [I g.lo, .sl 1 r 0 g.cs.length],tpA (g.lo+2*(b:Int)) cs] fr (ER g (g.lo+2*(b:Int)) cs r++aM sd sn G) K:=by
 have b9:j<G.length:=(List.getElem?_eq_some_iff.1 hj).1;have jd:max 1000001 (hnew (dH 0 G))=1000001:=by have:=qM G 0;omega
 have b0:decide (g.lo+2*(b:Int)<g.lo)=false:=by rw [decide_eq_false_iff_not];omega
 have b1:decide (g.lo+2*(g.cs.length:Int)<g.lo+2*(b:Int)+2*(cs.length:Int))=false:=by rw [decide_eq_false_iff_not];omega
 refine gq.intro [.cell 4 137] Tryz.func112 rfl rfl (by decide) (by simp [Tryz.ntmps112]) ?_;rw [Tryz.ntmps112]
 repeat' (first|omega|(first|apply ag|(refine aj.intro (id:=5) xS [[],[0],[0],[0,1,2],[0],[0],[],[0,1,2,3,4,5,6],[0,1,2,3,4,5,6],[]] (by decide+kernel) mixed ?_)|skip);simp only [go_sem,sevalprocAttr,jd,b0,b1,↓reduceIte,reduceCtorEq,xS]|apply ae<;>(intro h_;(try simp only [h_]);revert h_)|apply And.intro|with_reducible intro h_|trivial|simp only [go_sem,ah];omega)
 have n4:(1000004=r)=False:=eq_false (by omega);have n3:(1000003=r)=False:=eq_false (by omega);have n2:(1000002=r)=False:=eq_false (by omega);have n1:(2=r)=False:=eq_false (by omega);have n0:(1=r)=False:=eq_false (by omega);have n5:(1000000=r)=False:=eq_false (by omega);have m5:(1000005=r)=False:=eq_false (by omega);have m6:(1000006=r)=False:=eq_false (by omega)
 have m7:(1000007=r)=False:=eq_false (by omega);have m8:(1000008=r)=False:=eq_false (by omega);have m9:(1000009=r)=False:=eq_false (by omega);have mP: ∀k c,hset (dH 0 (G.set j ⟨g.key,g.lo,gp g.cs b cs k⟩)) r (.cells 3 (.ints c))=dH 0 (G.set j ⟨g.key,g.lo,c⟩):=fun k c=>by
  have:=O0 g.key g.lo c (G.set j ⟨g.key,g.lo,gp g.cs b cs k⟩) 0 j (by simpa using b9)
  rw [Nat.zero_add,←hr,List.set_set] at this;exact this
 have Cc: ∀k,hget (dH 0 (G.set j ⟨g.key,g.lo,gp g.cs b cs k⟩)) r=some (.cells 3 (.ints (gp g.cs b cs k))):=fun k=>by
  rw [hr];exact dc (G:=G.set j ⟨g.key,g.lo,gp g.cs b cs k⟩) (g:=⟨g.key,g.lo,gp g.cs b cs k⟩) (by simp [b9])
 refine aR.intro (fun n fr' H=> ∃i:Nat,i<=cs.length/\n=cs.length-i/\fr'=[(73,I i),(72,I cs.length),(71,roI cs),(4, .ptr 1000009 0),(3, .ptr 1000008 0),(2, .ptr 1000007 0)]++lft fr/\
  H=(1000009, .cells 137 (.lst [I 0, .nils]))::(1000008, .cells 137 (.lst [I (g.lo+2*(b:Int)),roI cs]))::(1000007, .cells 137 (.lst [I g.lo, .sl 1 r 0 g.cs.length]))::(1000006, .cells 137 (.lst [I g.lo, .sl 1 r 0 g.cs.length]))::(1000005, .cells 137 (.lst [I (g.lo+2*(b:Int)),roI cs]))::pc sd sn G (G.set j ⟨g.key,g.lo,gp g.cs b cs i⟩)) ?_ ?_
 ·refine ⟨_,_,_,?_,0,by omega,rfl,rfl,rfl⟩;rw [Q0,show (G.set j ⟨g.key,g.lo,g.cs⟩)=G from WK hj];refine Wk.uD ?_ (fun t ht=>?_)
  ·simp only [go_sem,sevalprocAttr,List.forall_mem_cons]
  ·simp only [fget]
   repeat rw [if_neg (by omega)]
 rintro n fr' H ⟨i,hi,rfl,rfl,rfl⟩;by_cases bH:i<cs.length
 ·have bi:decide ((i:Int)<cs.length)=true:=by simp;omega
  have e1:(g.lo+2*(b:Int)-g.lo).tdiv 2=b:=by rw [show g.lo+2*(b:Int)-g.lo=(b:Int)*2 by omega,Int.mul_tdiv_cancel _ (by decide)]
  have e2:((b:Int)+i).toNat=b+i:=by omega
  have st:=Ox g.cs b cs i (by omega);have al:=tq g.cs b cs i;have a1:=zB g.cs b cs i (b+i) (by omega);rw [if_neg (by omega),Int.add_zero] at a1;have c1:=gm (b+i);have c2:=pG i;have gi:=Cc i;have hs:=mP i;rw [←a1] at c1
  repeat' (first|omega|(try apply ag);simp only [go_sem,sevalprocAttr,bi,e1,e2,n0,n1,n2,n3,n4,n5,m5,m6,m7,m8,m9,gi,hs,al,st]|apply ae<;>(intro h_;(try simp only [h_]);revert h_)|apply And.intro|with_reducible intro h_|trivial|simp only [go_sem,ah];omega)
  refine ⟨_,_,_,?_,?_,i+1,by omega,rfl,rfl,rfl⟩
  ·omega
  ·refine Wk.uD (A:=[(73,I ((i+1:Nat):Int)),(72,I cs.length),(71,roI cs),(4, .ptr 1000009 0),(3, .ptr 1000008 0),(2, .ptr 1000007 0)]) ?_ (fun t ht=>?_)
   ·simp only [go_sem,sevalprocAttr,List.forall_mem_cons]
   ·simp only [fget]
    repeat rw [if_neg (by omega)]
 ·obtain rfl:i=cs.length:=by omega
  have bi:decide ((cs.length:Int)<cs.length)=false:=by simp
  repeat' (first|omega|(first|apply ag|(refine aj.intro (id:=5) xS [[],[0],[0],[0,1,2],[0],[0],[],[0,1,2,3,4,5,6],[0,1,2,3,4,5,6],[]] (by decide+kernel) mixed ?_)|skip);simp only [go_sem,sevalprocAttr,bi,↓reduceIte,reduceCtorEq,xS]|apply ae<;>(intro h_;(try simp only [h_]);revert h_)|apply And.intro|with_reducible intro h_|trivial|simp only [go_sem,ah];omega)
  all_goals exact hK
theorem U2 (sd:List PE) (sn:List Nat) (G:List PE) (j a b N r:Nat) (dt:Int) (g:PE) (lo:Int) (cs:List Int) (hG:G.length<=900000) (hj:G[j]?=some g) (hr:r=j+10) (Cd:g.lo=dt+2*(a:Int)) (w5:lo=dt+2*(b:Int)) (fy:a=0\/b=0)
  (Ts:a+g.cs.length<=N) (Tn:b+cs.length<=N) (hN:N=a+g.cs.length\/N=b+cs.length) (hw:0<a\/g.cs.length+a<b+cs.length) (TA:N<=1000000) (iv: -1000000<=dt/\dt<=1000000)
  (gm: ∀i,-1152921504606846976<=g.cs.getD i 0/\g.cs.getD i 0<=1152921504606846976) (pG: ∀i,-1152921504606846976<=cs.getD i 0/\cs.getD i 0<=1152921504606846976) {fr:Fr} {K:AV->Fr->Hp->Prop}
  (hK:K (.agg [I dt, .sl 1 1000010 0 N]) fr ([(1000010, .cells 3 (.ints (gp (dm a g.cs N) b cs cs.length))),(1000009, .cells 137 (.lst [I dt, .sl 1 1000010 0 N])),(1000008, .cells 137 (.lst [I lo,roI cs])),(1000007, .cells 137 (.lst [I dt, .sl 1 1000010 0 N]))]++ER g lo cs r++pc sd sn G G)):
  gq Tryz.prog 112 [.agg [I g.lo, .sl 1 r 0 g.cs.length],tpA lo cs] fr (ER g lo cs r++aM sd sn G) K:=by
 have b9:j<G.length:=(List.getElem?_eq_some_iff.1 hj).1;have jd:max 1000001 (hnew (dH 0 G))=1000001:=by have:=qM G 0;omega
 have n4:(1000004=r)=False:=eq_false (by omega);have n3:(1000003=r)=False:=eq_false (by omega);have n2:(1000002=r)=False:=eq_false (by omega);have n1:(2=r)=False:=eq_false (by omega);have n0:(1=r)=False:=eq_false (by omega);have n5:(1000000=r)=False:=eq_false (by omega);have m5:(1000005=r)=False:=eq_false (by omega);have m6:(1000006=r)=False:=eq_false (by omega)
 have m7:(1000007=r)=False:=eq_false (by omega);have m8:(1000008=r)=False:=eq_false (by omega);have m9:(1000009=r)=False:=eq_false (by omega);have mA:(1000010=r)=False:=eq_false (by omega);have gr:hget (dH 0 G) r=some (.cells 3 (.ints g.cs)):=by rw [hr];exact dc hj
 have b0:decide (lo<g.lo)=decide (0<a):=by
  rw [decide_eq_decide];omega
 have b1:decide (g.lo+2*(g.cs.length:Int)<lo+2*(cs.length:Int))=decide (g.cs.length+a<b+cs.length):=by
  rw [decide_eq_decide];omega
 have e1:(if lo<g.lo then lo else g.lo)=dt:=by split<;>omega
 have e2:(if g.lo+2*(g.cs.length:Int)<lo+2*(cs.length:Int) then lo+2*(cs.length:Int) else g.lo+2*(g.cs.length:Int))=dt+2*(N:Int):=by split<;>omega
 have e3:(dt+2*(N:Int)-dt).tdiv 2=N:=by rw [show dt+2*(N:Int)-dt=(N:Int)*2 by omega,Int.mul_tdiv_cancel _ (by decide)]
 have e4:(g.lo-dt).tdiv 2=a:=by rw [show g.lo-dt=(a:Int)*2 by omega,Int.mul_tdiv_cancel _ (by decide)]
 have e5:(lo-dt).tdiv 2=b:=by rw [show lo-dt=(b:Int)*2 by omega,Int.mul_tdiv_cancel _ (by decide)]
 have pl:=wz a g.cs N;have S2:=WL a g.cs N;have r0:(List.replicate N (0:Int)).length=N:=List.length_replicate;refine gq.intro [.cell 4 137] Tryz.func112 rfl rfl (by decide) (by simp [Tryz.ntmps112]) ?_;rw [Tryz.ntmps112];by_cases ha0:0<a
 case' pos=>
  have ba:decide (0<a)=true:=by simpa using ha0
  repeat' (first|omega|(try apply ag);simp only [go_sem,sevalprocAttr,jd,b0,ba,e1,e2,e3,e4,zzC]|apply ae<;>(intro h_;(try simp only [h_]);revert h_)|apply And.intro|with_reducible intro h_|trivial|simp only [go_sem,ah];omega)
 case' neg=>
  have ba:decide (0<a)=false:=by simpa using ha0
  have bb:decide (g.cs.length+a<b+cs.length)=true:=by rw [decide_eq_true_eq];omega
  repeat' (first|omega|(try apply ag);simp only [go_sem,sevalprocAttr,jd,b0,ba,b1,bb,e1,e2,e3,e4,zzC]|apply ae<;>(intro h_;(try simp only [h_]);revert h_)|apply And.intro|with_reducible intro h_|trivial|simp only [go_sem,ah];omega)
 all_goals
  refine aj.cut ([(5,I dt),(7, .sl 1 1000010 0 N),(4, .ptr 1000009 0),(3, .ptr 1000008 0),(2, .ptr 1000007 0)]++lft fr) ((1000010, .cells 3 (.ints (dm a g.cs N)))::(1000009, .cells 137 (.lst [I 0, .nils]))::(1000008, .cells 137 (.lst [I lo,roI cs]))::(1000007, .cells 137 (.lst [I g.lo, .sl 1 r 0 g.cs.length]))::(1000006, .cells 137 (.lst [I g.lo, .sl 1 r 0 g.cs.length]))::(1000005, .cells 137 (.lst [I lo,roI cs]))::pc sd sn G G) ?_ ?_
  ·repeat' (first|omega|(first|apply ag|(refine aj.aq (id:=5) (RA) (by decide+kernel) mixed ?_)|(refine aj.intro (id:=5) xS [[],[0],[0],[0,1,2],[0],[0],[],[0,1,2,3,4,5,6],[0,1,2,3,4,5,6],[]] (by decide+kernel) mixed ?_)|skip);simp only [go_sem,sevalprocAttr,e4,zzC,n0,n1,n2,n3,n4,n5,m5,m6,m7,m8,m9,mA,gr,↓reduceIte,reduceCtorEq,xS,RA]|apply ae<;>(intro h_;(try simp only [h_]);revert h_)|apply And.intro|with_reducible intro h_|trivial|simp only [go_sem,ah];omega)
   all_goals
    refine dS.copy (t:=22) (e:=3) (id:=1000010) (rid:=r) (n:=N-a) (m:=g.cs.length) (a:=a) (l:=List.replicate N 0) (ls:=g.cs) rfl rfl (by simp only [go_sem,sevalprocAttr]) (by simp only [go_sem,sevalprocAttr]) rfl rfl rfl ?_ (by rw [r0];omega) rfl (by omega) ?_
    ·simp only [go_sem,sevalprocAttr,n0,n1,n2,n3,n4,n5,m5,m6,m7,m8,m9,mA,gr]
    rw [S2];simp only [go_sem,sevalprocAttr];refine Wk.uD (A:=[(5,I dt),(7, .sl 1 1000010 0 N),(4, .ptr 1000009 0),(3, .ptr 1000008 0),(2, .ptr 1000007 0)]) ?_ (fun t ht=>?_)
    ·simp only [go_sem,sevalprocAttr,List.forall_mem_cons]
    ·simp only [fget]
     repeat rw [if_neg (by omega)]
  repeat' (first|omega|(try apply ag);simp only [go_sem,sevalprocAttr,e5]|apply ae<;>(intro h_;(try simp only [h_]);revert h_)|apply And.intro|with_reducible intro h_|trivial|simp only [go_sem,ah];omega)
  refine aR.intro (fun n fr' H=> ∃i:Nat,i<=cs.length/\n=cs.length-i/\fr'=[(73,I i),(72,I cs.length),(71,roI cs),(4, .ptr 1000009 0),(3, .ptr 1000008 0),(2, .ptr 1000007 0)]++lft fr/\
   H=(1000010, .cells 3 (.ints (gp (dm a g.cs N) b cs i)))::(1000009, .cells 137 (.lst [I 0, .nils]))::(1000008, .cells 137 (.lst [I lo,roI cs]))::(1000007, .cells 137 (.lst [I dt, .sl 1 1000010 0 N]))::(1000006, .cells 137 (.lst [I g.lo, .sl 1 r 0 g.cs.length]))::(1000005, .cells 137 (.lst [I lo,roI cs]))::pc sd sn G G) ?_ ?_
  ·refine ⟨_,_,_,?_,0,by omega,rfl,rfl,rfl⟩;rw [Q0];refine Wk.uD (A:=[(73,I ((0:Nat):Int)),(72,I cs.length),(71,roI cs),(4, .ptr 1000009 0),(3, .ptr 1000008 0),(2, .ptr 1000007 0)]) ?_ (fun t ht=>?_)
   ·simp only [go_sem,sevalprocAttr,List.forall_mem_cons]
   ·simp only [fget]
    repeat rw [if_neg (by omega)]
  rintro n fr' H ⟨i,hi,rfl,rfl,rfl⟩;by_cases bH:i<cs.length
  ·have bi:decide ((i:Int)<cs.length)=true:=by simp;omega
   have e6:((b:Int)+i).toNat=b+i:=by omega
   have st:=Ox (dm a g.cs N) b cs i (by omega);have al:=tq (dm a g.cs N) b cs i;have a1:=zB (dm a g.cs N) b cs i (b+i) (by omega);rw [if_neg (by omega),Int.add_zero] at a1;have c2:=pG i;have c1: -1152921504606846976<=(dm a g.cs N).getD (b+i) 0/\(dm a g.cs N).getD (b+i) 0<=1152921504606846976:=by
    have:=gm (b+i-a)
    simp only [dm,zzB,List.getElem?_map,List.getElem?_range (show b+i<N by omega),Option.map_some,Option.getD_some] at this⊢
    split<;>omega
   rw [←a1] at c1;rw [pl] at al
   repeat' (first|omega|(try apply ag);simp only [go_sem,sevalprocAttr,bi,e5,e6,n0,n1,n2,n3,n4,n5,m5,m6,m7,m8,m9,mA,al,st]|apply ae<;>(intro h_;(try simp only [h_]);revert h_)|apply And.intro|with_reducible intro h_|trivial|simp only [go_sem,ah];omega)
   refine ⟨_,_,_,?_,?_,i+1,by omega,rfl,rfl,rfl⟩
   ·omega
   ·refine Wk.uD (A:=[(73,I ((i+1:Nat):Int)),(72,I cs.length),(71,roI cs),(4, .ptr 1000009 0),(3, .ptr 1000008 0),(2, .ptr 1000007 0)]) ?_ (fun t ht=>?_)
    ·simp only [go_sem,sevalprocAttr,List.forall_mem_cons]
    ·simp only [fget]
     repeat rw [if_neg (by omega)]
  ·obtain rfl:i=cs.length:=by omega
   have bi:decide ((cs.length:Int)<cs.length)=false:=by simp
   repeat' (first|omega|(try apply ag);simp only [go_sem,sevalprocAttr,bi]|apply ae<;>(intro h_;(try simp only [h_]);revert h_)|apply And.intro|with_reducible intro h_|trivial|simp only [go_sem,ah];omega)
   all_goals exact hK
end Go.Proofs.YtmdjdekgakidhaaGreatDoor
