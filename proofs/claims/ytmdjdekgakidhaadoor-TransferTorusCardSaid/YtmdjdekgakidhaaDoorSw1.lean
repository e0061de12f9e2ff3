/- Layer 17: the states of a sweep: a map with a row of its own for each key. -/
import Derived.Test.YtmdjdekgakidhaaDoorZf
namespace Go.Proofs.YtmdjdekgakidhaaDoor
open Go Go.RowKit
set_option maxRecDepth 100000
set_option maxHeartbeats 8000000
set_option linter.unusedVariables false
set_option linter.unusedSimpArgs false
theorem Wk.subG {fr fr':Fr} {H H':Hp} (hf: ∀t,fget fr' t= .any\/(fget fr' t=fget fr t/\s3 H' (fget fr' t)=true)) (hh: ∀i o,hget H' i=some o->hget H i=some o/\sO H' o=true):Wk fr H fr' H':=by
 intro B w0 Mx N w ρ a hs
 refine ⟨ρ,(hs.weaken (fun id o ho=>(hh id o ho).1) (fun t=>(hf t).imp id (·.1)) (fun id o ho M hr=>?_) (fun t M v hv=>?_))⟩
 ·have hso:=(hh id o ho).2
  cases o with
  |gone=>trivial
  |cells t c=>
   obtain ⟨k1,arr,k2,k3,k4⟩:=hr
   refine ⟨k1,arr,k2,k3,fun j hj=>?_⟩
   obtain ⟨u,hu,hv⟩:=k4 j hj
   refine ⟨u,hu,?_⟩
   cases c with
   |ints l=>exact hv.pure1 rfl
   |bools l=>exact hv.pure1 rfl
   |lst l=>
    simp only [Cs.len] at hj
    simp only [Cs.get,List.getD_eq_getElem?_getD,List.getElem?_eq_getElem hj,Option.getD_some] at hv⊢
    exact hv.sc3 (List.all_eq_true.1 hso _ (List.getElem_mem hj))
  |gmap t ck l=>
   obtain ⟨es,k1,k2,k3⟩:=hr
   exact ⟨es,k1,k2,fun j e q he hl=>let ⟨g1,g2,g3⟩:=k3 j e q he hl;⟨g1,g2,g3.sc3 (List.all_eq_true.1 hso q (List.mem_of_getElem? hl))⟩⟩
  |iter mid s sn la=>
   obtain ⟨_,k2,k3⟩:=hr
   exact ⟨Option.isSome_iff_exists.1 hso,k2,k3⟩
  |imap t l=>
   obtain ⟨k0,es,ck,k1,k2,k3⟩:=hr
   exact ⟨k0,es,ck,k1,k2,fun j e k x he hl=>let ⟨g1,g2,g3⟩:=k3 j e k x he hl;⟨g1,g2.sc3 (List.all_eq_true.1 hso (k,x) (List.mem_of_getElem? hl)),g3⟩⟩
  |fmap t c=>exact hr
 ·rcases hf t with e|⟨_,e⟩
  ·rw [e];exact .any _
  ·exact hv.sc3 e
theorem Wk.frm {F A fr:Fr} {H:Hp} (hA: ∀q∈A,fget F q.1=q.2/\q.1<1000000) (h2: ∀t,1000000<=t->fget F t=fget (lft fr) t):Wk F H (A++lft fr) H:=by
 intro B w0 Mx N w ρ a hs
 refine ⟨ρ,hs.slots fun t=>?_⟩
 have key: ∀(A:Fr),(∀q∈A,fget F q.1=q.2/\q.1<1000000)->fget (A++lft fr) t= .any\/fget (A++lft fr) t=fget F t:=by
  intro A
  induction A with
  |nil=>
   intro _
   rw [List.nil_append]
   rcases Nat.lt_or_ge t 1000000 with h|h
   ·left;rw [yb7,if_neg (by omega)]
   ·right;rw [h2 t h]
  |cons q A ih=>
   intro h1
   obtain ⟨t',x⟩:=q
   rw [List.cons_append]
   simp only [fget]
   split
   ·rename_i e;subst e;right;exact (h1 (t',x) (List.mem_cons_self ..)).1.symm
   ·exact ih fun q hq=>h1 q (List.mem_cons_of_mem _ hq)
 exact key A hA
structure PE where
 key:ByteArray
 lo:Int
 cs:List Int
def gmE:Nat->List PE->List (ByteArray×Nat×AV)
 |_,[]=>[]
 |i,g::G=>(g.key,i, .agg [I g.lo, .sl 1 (i+10) 0 g.cs.length])::gmE (i+1) G
def rwE:Nat->List PE->Hp
 |_,[]=>[]
 |i,g::G=>(i+10, .cells 3 (.ints g.cs))::rwE (i+1) G
def gmD:Nat->List PE->List (ByteArray×Nat×AV)
 |_,[]=>[]
 |i,g::G=>(g.key,i,tpA g.lo g.cs)::gmD (i+1) G
theorem ygz: ∀(G:List PE) (i k:Nat),hget (rwE i G) k=if i+10<=k then (G[k-10-i]?).map fun g=> .cells 3 (.ints g.cs) else none
 |[],i,k=>by simp [rwE,hget]
 |g::G,i,k=>by
  simp only [rwE,hget]
  by_cases e:i+10=k
  ·subst e;simp
  ·rw [if_neg e,ygz G (i+1) k]
   by_cases h:i+10<=k
   ·rw [if_pos h,if_pos (by omega)]
    have:k-10-i=(k-10-(i+1))+1:=by omega
    rw [this,List.getElem?_cons_succ]
   ·rw [if_neg h,if_neg (by omega)]
theorem rwE_row {G:List PE} {j:Nat} {g:PE} (h:G[j]?=some g):hget (rwE 0 G) (j+10)=some (.cells 3 (.ints g.cs)):=by
 rw [ygz,if_pos (by omega),show j+10-10-0=j by omega,h];rfl
theorem yp7 {G:List PE} {k:Nat} (h:k<10\/G.length+10<=k):hget (rwE 0 G) k=none:=by
 rw [ygz]
 split
 ·rw [List.getElem?_eq_none (by omega)];rfl
 ·rfl
theorem ych: ∀(G:List PE) (i:Nat),hnew (rwE i G)<=i+G.length+10
 |[],i=>by simp [rwE,hnew]
 |g::G,i=>by
  have:=ych G (i+1)
  simp only [rwE,hnew,List.length_cons]
  omega
theorem yp8 (s:ByteArray) (lo:Int) (c:List Int): ∀(G:List PE) (i j:Nat),j<G.length->hset (rwE i G) (i+j+10) (.cells 3 (.ints c))=rwE i (G.set j ⟨s,lo,c⟩)
 |[],i,j,h=>by simp at h
 |g::G,i,0,h=>by simp [rwE,hset]
 |g::G,i,j+1,h=>by
  simp only [rwE,hset,List.set_cons_succ]
  rw [if_neg (by omega)]
  have:=yp8 s lo c G (i+1) j (by simpa using h)
  rw [←this]
  congr 2
  omega
def ybd (G:List PE):Prop:=(G.map (·.key)).Nodup
theorem yl9: ∀(G:List PE) (i:Nat) (s:ByteArray),(∀g∈G,g.key≠s)->ybq (gmE i G) s=none
 |[],_,_,_=>rfl
 |g::G,i,s,h=>by
  have h1:=h g (List.mem_cons_self ..)
  have:=yl9 G (i+1) s fun g hg=>h g (List.mem_cons_of_mem _ hg)
  unfold ybq at this⊢
  simp only [gmE,List.find?_cons]
  rw [show decide (g.key=s)=false by simpa using h1]
  exact this
theorem yh5: ∀(G:List PE) (i j:Nat) (g:PE),ybd G->G[j]?=some g->ybq (gmE i G) g.key=some (g.key,i+j, .agg [I g.lo, .sl 1 (i+j+10) 0 g.cs.length])
 |[],_,_,_,_,h=>by simp at h
 |a::G,i,0,g,hk,h=>by
  simp only [List.getElem?_cons_zero,Option.some.injEq] at h
  subst h
  simp [ybq,gmE]
 |a::G,i,j+1,g,hk,h=>by
  simp only [List.getElem?_cons_succ] at h
  unfold ybd at hk
  rw [List.map_cons,List.nodup_cons] at hk
  have hne:a.key≠g.key:=fun e=>hk.1 (e▸List.mem_map.2 ⟨g,List.mem_of_getElem? h,rfl⟩)
  have:=yh5 G (i+1) j g hk.2 h
  unfold ybq at this⊢
  simp only [gmE,List.find?_cons]
  rw [show decide (a.key=g.key)=false by simpa using hne,this]
  simp only [show i+1+j=i+(j+1) by omega]
theorem ysi: ∀(G:List PE) (i:Nat) (g:PE),gmE i (G++[g])=gmE i G++[(g.key,i+G.length, .agg [I g.lo, .sl 1 (i+G.length+10) 0 g.cs.length])]
 |[],i,g=>by simp [gmE]
 |a::G,i,g=>by
  rw [List.cons_append]
  simp only [gmE,List.cons_append,ysi G (i+1) g,List.length_cons]
  simp only [show i+1+G.length=i+(G.length+1) by omega]
theorem yjh {φ:AV->AV}: ∀(G:List PE) (i:Nat),(∀k lo n,i<=k->k<i+G.length->φ (.agg [I lo, .sl 1 (k+10) 0 n])= .agg [I lo, .sl 1 (k+10) 0 n])->(gmE i G).map (fun q=>(q.1,q.2.1,φ q.2.2))=gmE i G
 |[],_,_=>rfl
 |a::G,i,h=>by
  simp only [gmE,List.map_cons]
  rw [h i _ _ (Nat.le_refl _) (by simp),yjh G (i+1) fun k lo n h1 h2=>h k lo n (by omega) (by simp only [List.length_cons];omega)]
theorem ym1 {φ:AV->AV} {v:AV} {lo:Int} {cs:List Int}: ∀(G:List PE) (i j:Nat) (g:PE),ybd G->G[j]?=some g->φ v= .agg [I lo, .sl 1 (i+j+10) 0 cs.length]->(∀k lo n,i<=k->k<i+G.length->k≠i+j->φ (.agg [I lo, .sl 1 (k+10) 0 n])= .agg [I lo, .sl 1 (k+10) 0 n])->
  (ygd (gmE i G) g.key v).map (fun q=>(q.1,q.2.1,φ q.2.2))=gmE i (G.set j ⟨g.key,lo,cs⟩)
 |[],_,_,_,_,h,_,_=>by simp at h
 |a::G,i,0,g,hk,h,hv,hφ=>by
  simp only [List.getElem?_cons_zero,Option.some.injEq] at h
  subst h
  simp only [gmE,ygd,if_true,List.map_cons,List.set_cons_zero,hv,Nat.add_zero]
  rw [yjh G (i+1) fun k lo n h1 h2=>hφ k lo n (by omega) (by simp only [List.length_cons];omega) (by omega)]
 |a::G,i,j+1,g,hk,h,hv,hφ=>by
  simp only [List.getElem?_cons_succ] at h
  unfold ybd at hk
  rw [List.map_cons,List.nodup_cons] at hk
  have hne:a.key≠g.key:=fun e=>hk.1 (e▸List.mem_map.2 ⟨g,List.mem_of_getElem? h,rfl⟩)
  simp only [gmE,ygd,if_neg hne,List.map_cons,List.set_cons_succ]
  rw [hφ i _ _ (Nat.le_refl _) (by simp) (by omega),ym1 (lo:=lo) (cs:=cs) G (i+1) j g hk.2 h (by rw [hv];simp only [show i+(j+1)=i+1+j by omega]) fun k lo n h1 h2 h3=>hφ k lo n (by omega) (by simp only [List.length_cons];omega) (by omega)]
theorem yji: ∀(G:List PE) (i:Nat) (q:ByteArray×Nat×AV),q∈gmE i G-> ∃k g,G[k]?=some g/\q=(g.key,i+k, .agg [I g.lo, .sl 1 (i+k+10) 0 g.cs.length])
 |[],_,_,h=>by simp [gmE] at h
 |a::G,i,q,h=>by
  simp only [gmE] at h
  rcases List.mem_cons.1 h with rfl|h
  ·exact ⟨0,a,rfl,rfl⟩
  ·obtain ⟨k,g,h1,h2⟩:=yji G (i+1) q h
   exact ⟨k+1,g,h1,by rw [h2];simp only [show i+1+k=i+(k+1) by omega]⟩
theorem ybr: ∀(G:List PE) (i:Nat) (q:ByteArray×Nat×AV),q∈gmD i G-> ∃k g,G[k]?=some g/\q=(g.key,i+k,tpA g.lo g.cs)
 |[],_,_,h=>by simp [gmD] at h
 |a::G,i,q,h=>by
  simp only [gmD] at h
  rcases List.mem_cons.1 h with rfl|h
  ·exact ⟨0,a,rfl,rfl⟩
  ·obtain ⟨k,g,h1,h2⟩:=ybr G (i+1) q h
   exact ⟨k+1,g,h1,by rw [h2];simp only [show i+1+k=i+(k+1) by omega]⟩
theorem ywc: ∀(G:List PE) (i k:Nat) (g:PE),G[k]?=some g->(g.key,i+k,tpA g.lo g.cs)∈gmD i G
 |[],_,_,_,h=>by simp at h
 |a::G,i,0,g,h=>by
  simp only [List.getElem?_cons_zero,Option.some.injEq] at h
  subst h;exact List.mem_cons_self ..
 |a::G,i,k+1,g,h=>by
  simp only [List.getElem?_cons_succ] at h
  have:=ywc G (i+1) k g h
  rw [show i+1+k=i+(k+1) by omega] at this
  exact List.mem_cons_of_mem _ this
theorem ysj (G0:List PE): ∀(G:List PE) (i:Nat),(∀k g,G[k]?=some g->G0[i+k]?=some g)->(gmE i G).map (fun q=>(q.1,q.2.1,frzV (rwE 0 G0) 4 q.2.2))=gmD i G
 |[],_,_=>rfl
 |a::G,i,h=>by
  have h0:=rwE_row (h 0 a rfl)
  rw [Nat.add_zero] at h0
  simp only [gmE,gmD,List.map_cons]
  rw [ysj G0 G (i+1) fun k g hk=>by rw [show i+1+k=i+(k+1) by omega];exact h (k+1) g hk]
  congr 3
  simp only [frzV,List.map_cons,List.map_nil,h0,snap]
  simp [Cs.win,Cs.drop,Cs.take]
abbrev swpR (sd:List PE) (sn:List Nat) (G R:List PE):Hp:=(1000004, .iter 2 sd.length sn sd.length)::(1000003, .cells 66 (.lst [.mp 1000002]))::(1000002, .gmap 66 G.length (gmE 0 G))::(2, .gmap 66 sd.length (gmD 0 sd))::(1, .cells 28 (.lst [.bool false, .nils]))::(1000000, .gone)::rwE 0 R
abbrev swpH (sd:List PE) (sn:List Nat) (G:List PE):Hp:=swpR sd sn G G
theorem yt7 {α:Type} {p:Prop} [Decidable p] {a:α} {b:Option α} (h:b.isSome=true):(if p then some a else b).isSome=true:=by split<;>first|rfl|exact h
theorem yp9 (sd:List PE) (sn:List Nat) (G:List PE): ∀i o,hget (swpH sd sn G) i=some o->sO (swpH sd sn G) o=true:=by
 intro i o h
 have hrow: ∀k g,G[k]?=some g->(hget (swpH sd sn G) (k+10)).isSome=true:=fun k g hk=>by
  simp only [hget]
  repeat refine yt7 ?_
  rw [rwE_row hk];rfl
 simp only [hget] at h
 split at h
 ·cases h;rfl
 split at h
 ·cases h;rfl
 split at h
 ·cases h
  refine List.all_eq_true.2 fun q hq=>?_
  obtain ⟨k,g,h1,rfl⟩:=yji _ _ _ hq
  have:=hrow k g h1
  simp only [Nat.zero_add] at this⊢
  simp only [s3,s2,s1,List.all_cons,List.all_nil,this,Bool.and_self]
 split at h
 ·cases h
  refine List.all_eq_true.2 fun q hq=>?_
  obtain ⟨k,g,h1,rfl⟩:=ybr _ _ _ hq
  rfl
 split at h
 ·cases h;rfl
 split at h
 ·cases h;rfl
 ·rw [ygz] at h
  split at h
  ·obtain ⟨g,_,rfl⟩:=Option.map_eq_some_iff.1 h;rfl
  ·cases h
def okH:Hp:=[(1, .gone),(2, .gone),(1000002, .gone),(1000003, .gone),(1000004, .gone)]
theorem yed {k:Nat} (h:(hget okH k).isSome=true):k=1\/k=2\/k=1000002\/k=1000003\/k=1000004:=by
 simp only [okH,hget] at h
 split at h
 ·omega
 split at h
 ·omega
 split at h
 ·omega
 split at h
 ·omega
 split at h
 ·omega
 ·cases h
theorem ydr {H H':Hp} (hm: ∀k,(hget H k).isSome=true->(hget H' k).isSome=true): ∀(x:AV),s1 H x=true->s1 H' x=true
 | .ptr i _,h=>hm i h
 | .sl _ i _ _,h=>hm i h
 | .mp i,h=>hm i h
 | .agg _,h=>h
 | .tup _,h=>h
 | .fn _ _,h=>h
 | .any,h=>h
 | .int _ _,h=>h
 | .bool _,h=>h
 | .str _,h=>h
 | .nils,h=>h
 | .ro _ _ _,h=>h
 | .rp _ _,h=>h
theorem ym2 {H H':Hp} (hm: ∀k,(hget H k).isSome=true->(hget H' k).isSome=true): ∀(x:AV),s2 H x=true->s2 H' x=true
 | .ptr i o,h=>ydr hm (.ptr i o) h
 | .sl e i o l,h=>ydr hm (.sl e i o l) h
 | .mp i,h=>ydr hm (.mp i) h
 | .agg xs,h=>List.all_eq_true.2 fun y hy=>ydr hm y (List.all_eq_true.1 h y hy)
 | .tup _,h=>h
 | .fn _ xs,h=>List.all_eq_true.2 fun y hy=>ydr hm y (List.all_eq_true.1 h y hy)
 | .any,h=>h
 | .int _ _,h=>h
 | .bool _,h=>h
 | .str _,h=>h
 | .nils,h=>h
 | .ro _ _ _,h=>h
 | .rp _ _,h=>h
theorem ycx {H H':Hp} (hm: ∀k,(hget H k).isSome=true->(hget H' k).isSome=true): ∀(x:AV),s3 H x=true->s3 H' x=true
 | .ptr i o,h=>ydr hm (.ptr i o) h
 | .sl e i o l,h=>ydr hm (.sl e i o l) h
 | .mp i,h=>ydr hm (.mp i) h
 | .agg xs,h=>List.all_eq_true.2 fun y hy=>ym2 hm y (List.all_eq_true.1 h y hy)
 | .tup xs,h=>List.all_eq_true.2 fun y hy=>ym2 hm y (List.all_eq_true.1 h y hy)
 | .fn _ xs,h=>List.all_eq_true.2 fun y hy=>ym2 hm y (List.all_eq_true.1 h y hy)
 | .any,h=>h
 | .int _ _,h=>h
 | .bool _,h=>h
 | .str _,h=>h
 | .nils,h=>h
 | .ro _ _ _,h=>h
 | .rp _ _,h=>h
theorem yg0 {i j n:Nat} {xs:List AV} (h: ∀x∈xs,swV i j n x=x):xs.map (swV i j n)=xs:=by
 conv=>rhs;rw [←List.map_id xs]
 exact List.map_congr_left h
section
variable {i j:Nat} (hi:(hget okH i).isSome=false) (hj:(hget okH j).isSome=false)
include hi hj
theorem ym3 (k:Nat) (hk:(hget okH k).isSome=true):swI i j k=k:=by
 unfold swI
 rw [if_neg (fun e=>by rw [e,hi] at hk;cases hk),if_neg (fun e=>by rw [e,hj] at hk;cases hk)]
theorem yds (n:Nat): ∀(x:AV),s1 okH x=true->swV i j (n+1) x=x
 | .ptr k o,h=>by simp only [swV,ym3 hi hj k h]
 | .sl e k o l,h=>by simp only [swV,ym3 hi hj k h]
 | .mp k,h=>by simp only [swV,ym3 hi hj k h]
 | .agg _,h=>by cases h
 | .tup _,h=>by cases h
 | .fn _ _,h=>by cases h
 | .any,h=>rfl
 | .int _ _,h=>rfl
 | .bool _,h=>rfl
 | .str _,h=>rfl
 | .nils,h=>rfl
 | .ro _ _ _,h=>rfl
 | .rp _ _,h=>rfl
theorem ym4 (n:Nat): ∀(x:AV),s2 okH x=true->swV i j (n+2) x=x
 | .agg xs,h=>by show AV.agg (xs.map (swV i j (n+1)))=_;rw [yg0 fun y hy=>yds hi hj n y (List.all_eq_true.1 h y hy)]
 | .tup _,h=>by cases h
 | .fn f xs,h=>by show AV.fn f (xs.map (swV i j (n+1)))=_;rw [yg0 fun y hy=>yds hi hj n y (List.all_eq_true.1 h y hy)]
 | .ptr k o,h=>yds hi hj (n+1) (.ptr k o) h
 | .sl e k o l,h=>yds hi hj (n+1) (.sl e k o l) h
 | .mp k,h=>yds hi hj (n+1) (.mp k) h
 | .any,h=>rfl
 | .int _ _,h=>rfl
 | .bool _,h=>rfl
 | .str _,h=>rfl
 | .nils,h=>rfl
 | .ro _ _ _,h=>rfl
 | .rp _ _,h=>rfl
theorem y26 (n:Nat): ∀(x:AV),s3 okH x=true->swV i j (n+3) x=x
 | .agg xs,h=>by show AV.agg (xs.map (swV i j (n+2)))=_;rw [yg0 fun y hy=>ym4 hi hj n y (List.all_eq_true.1 h y hy)]
 | .tup xs,h=>by show AV.tup (xs.map (swV i j (n+2)))=_;rw [yg0 fun y hy=>ym4 hi hj n y (List.all_eq_true.1 h y hy)]
 | .fn f xs,h=>by show AV.fn f (xs.map (swV i j (n+2)))=_;rw [yg0 fun y hy=>ym4 hi hj n y (List.all_eq_true.1 h y hy)]
 | .ptr k o,h=>yds hi hj (n+2) (.ptr k o) h
 | .sl e k o l,h=>yds hi hj (n+2) (.sl e k o l) h
 | .mp k,h=>yds hi hj (n+2) (.mp k) h
 | .any,h=>rfl
 | .int _ _,h=>rfl
 | .bool _,h=>rfl
 | .str _,h=>rfl
 | .nils,h=>rfl
 | .ro _ _ _,h=>rfl
 | .rp _ _,h=>rfl
end
theorem yqa {k:Nat} (h:1000005<=k\/(3<=k/\k<1000000)):(hget okH k).isSome=false:=by
 cases hq:(hget okH k).isSome with
 |false=>rfl
 |true=>have:=yed hq;omega
theorem yma {fr:Fr} {H:Hp} (h:fr.all (fun q=>s3 H q.2)=true) (t:Nat):fget fr t= .any\/s3 H (fget fr t)=true:=by
 induction fr with
 |nil=>exact .inl rfl
 |cons q fr ih=>
  obtain ⟨s,x⟩:=q
  simp only [List.all_cons,Bool.and_eq_true] at h
  simp only [fget]
  split
  ·exact .inr h.1
  ·exact ih h.2
theorem yqb {sd G:List PE} {sn:List Nat} {F fr:Fr} {X:Hp} (nid r:Nat) {l:List (ByteArray×Nat×AV)} (hn:1000005<=nid) (hr:10<=r/\r<1000000) (hG:G.length<=900000)
  (h4:hget X 1000004=some (.iter 2 sd.length sn sd.length)) (h3:hget X 1000003=some (.cells 66 (.lst [.mp 1000002]))) (h2:hget X 1000002=some (.gmap 66 G.length l)) (hl:l.map (fun q=>(q.1,q.2.1,swV nid r 4 q.2.2))=gmE 0 G)
  (h5:hget X 2=some (.gmap 66 sd.length (gmD 0 sd))) (h1:hget X 1=some (.cells 28 (.lst [.bool false, .nils]))) (h0:hget X 1000000=some .gone)
  (hrow: ∀k g,G[k]?=some g->hget X (swI nid r (k+10))=some (.cells 3 (.ints g.cs))) (hfr:fr.all (fun q=>s3 okH q.2)=true) (hF: ∀t,1000000<=t->fget F t=fget (lft fr) t):Wk F X (lft fr) (swpH sd sn G):=by
 have on:=yqa (k:=nid) (.inl hn)
 have or':=yqa (k:=r) (.inr ⟨by omega,hr.2⟩)
 have hsw: ∀k,k≠nid->k≠r->swI nid r k=k:=fun k a b=>by unfold swI;rw [if_neg a,if_neg b]
 refine (Wk.swap nid r F X).trans (Wk.subG (fun t=>?_) fun i o h=>⟨?_,yp9 sd sn G i o h⟩)
 ·rcases Nat.lt_or_ge t 1000000 with ht|ht
  ·left;rw [yb7,if_neg (by omega)]
  ·rw [ykr,hF t ht,yb7,if_pos ht]
   rcases yma hfr (t-1000000) with g|g
   ·left;exact g
   ·right
    refine ⟨(y26 on or' 1 _ g).symm,ycx (fun k hk=>?_) _ g⟩
    rcases yed hk with e|e|e|e|e<;>subst e<;>rfl
 ·rw [ynu]
  simp only [hget] at h
  split at h
  ·rename_i e;subst e;rw [hsw _ (by omega) (by omega),h4];cases h;simp only [Option.map_some,swO];rw [hsw _ (by omega) (by omega)]
  split at h
  ·rename_i e;subst e;rw [hsw _ (by omega) (by omega),h3];cases h;simp only [Option.map_some,swO,List.map_cons,List.map_nil,swV];rw [hsw _ (by omega) (by omega)]
  split at h
  ·rename_i e;subst e;rw [hsw _ (by omega) (by omega),h2];cases h;simp only [Option.map_some,swO,hl]
  split at h
  ·rename_i e;subst e;rw [hsw _ (by omega) (by omega),h5];cases h;simp only [Option.map_some,swO]
   congr 2
   conv=>rhs;rw [←List.map_id (gmD 0 sd)]
   exact List.map_congr_left fun q hq=>by obtain ⟨k,g,_,rfl⟩:=ybr _ _ _ hq;rfl
  split at h
  ·rename_i e;subst e;rw [hsw _ (by omega) (by omega),h1];cases h;rfl
  split at h
  ·rename_i e;subst e;rw [hsw _ (by omega) (by omega),h0];cases h;rfl
  ·rw [ygz] at h
   split at h
   ·rename_i hi
    obtain ⟨g,g1,rfl⟩:=Option.map_eq_some_iff.1 h
    have:=hrow (i-10-0) g g1
    rw [show i-10-0+10=i by omega] at this
    rw [this];rfl
   ·cases h
section
variable {P:Program} {N:Nat} {fr:Fr} {H:Hp} {K:Fr->Hp->Prop} {o:Oper}
theorem SpA.copy {t e id rid n m a:Nat} {s x:Operand} {l ls:List Int} (ho:o.op= .call {callee:= .builtin .copy,args:= #[s,x],argTypes:= #[t,t]}) (hd:dok o.dst N=true) (htk:tk P t= .slice e) (hsz:tsz P e=some 1)
  (hs:evA fr s= .sl 1 id a n) (hx:evA fr x= .sl 1 rid 0 m) (h1:hget H id=some (.cells 3 (.ints l))) (h2:hget H rid=some (.cells 3 (.ints ls))) (hn:a+n<=l.length) (hm:ls.length=m) (hmn:m<=n)
  (h:K (fput fr o.dst (I m)) (hset H id (.cells 3 (.ints ((List.range l.length).map fun i=>if a<=i/\i-a<m then ls.getD (i-a) 0 else l.getD i 0))))):SpA P N o K fr H:=by
 intro B w0 Mx w ρ ac hsim Q
 have hvs:=hsim.ev s
 have hvx:=hsim.ev x
 rw [hs] at hvs
 rw [hx] at hvx
 obtain ⟨A,c,news,e1,n1',n2',n3',n4',n5'⟩:=yc6 (es:=1) (q:=0+m*1<=(Cs.ints ls).len) (m:=m) (d:=some ((Cs.ints ls).win 0 (m*1))) hsim.objs hvx (by simp only [srcF,if_true,h2]) (by simp [Cs.len,hm])
 have hnl:news.length=m:=by omega
 obtain ⟨hsp,arr,hb,hl,hcs⟩:=hsim.objs id _ h1
 simp only [Cs.len] at hl hcs
 cases hqv:ac.eval s with
 |slice ad len cap=>
  rw [hqv] at hvs
  cases hvs with
  |sl es id' off' len' cap' hdd hc arr' t' ad' ha hb' hr=>
   have hone: ∀z∈news,oneC z:=fun z hz=>by
    obtain ⟨i,hi⟩:=List.mem_iff_getElem?.1 hz
    exact (n5' i z hi).oneC rfl
   have ead:(ρ id).add a=⟨(ρ id).block,(ρ id).off+a,none⟩:=ybs hsp a
   obtain ⟨w',arr2,r1,r2,r3,r4,r5,r6,r7,r8,r9⟩:=yce (P:=P) (b:=(ρ id).block) (t:=3) (o:=(ρ id).off+a) news 0 w arr hb (by omega) hone
   have hch:=hsim.change (c':= .ints ((List.range l.length).map fun i=>if a<=i/\i-a<m then ls.getD (i-a) 0 else l.getD i 0)) h1 hb r2 r3 r4 r5 r6 r7 r8 (by simp [Cs.len];omega) (fun j hj=>by
    simp only [Cs.len,List.length_map,List.length_range] at hj
    rw [r9]
    simp only [Cs.get,List.getD_eq_getElem?_getD,List.getElem?_map,List.getElem?_range hj,Option.map_some,Option.getD_some]
    by_cases c1:a<=j/\j-a<m
    ·rw [if_pos c1,if_pos (by omega)]
     have e2:(ρ id).off+j-((ρ id).off+a+0)=j-a:=by omega
     rw [e2]
     have hlt:j-a<news.length:=by omega
     refine ⟨news[j-a],List.getElem?_eq_getElem hlt,?_⟩
     have:=n5' (j-a) _ (List.getElem?_eq_getElem hlt)
     simp only [getO,Cs.get,Cs.win,Cs.drop,Cs.take,List.getD_eq_getElem?_getD,List.drop_zero,List.getElem?_take] at this
     rw [if_pos (by omega)] at this
     exact this
    ·rw [if_neg c1,if_neg (by omega)]
     obtain ⟨u,g1,g2⟩:=hcs j hj
     exact ⟨u,g1,by simpa [Cs.get,List.getD_eq_getElem?_getD] using g2⟩)
   have hf:=yd4 (P:=P) (w:=w) (es:=1) (n:=m) (c:=c) (A:=A) (news:=news) (by omega) n4' n3'
   have hrun:(execOp ac.eval o).run P w= .ok (.value (goInt m)) w':=by
    have hst:(storeCells ad' news 0).run P w= .ok () w':=by
     by_cases hc0:0<cap
     ·rw [ha hc0,ead];exact r1
     ·have hn0:news=[]:=List.eq_nil_of_length_eq_zero (by omega)
      subst hn0
      simp [storeCells] at r1⊢
      exact r1
    have hmin:Nat.min m n=m:=Nat.min_eq_left hmn
    have hcp:(Builtin.copy_ #[t,t] o.type #[ac.eval s,ac.eval x]).run P w= .ok (goInt m) w':=by
     simp [Builtin.copy_,run_underlying (yan htk),hqv,e1,Builtin.lenOf,yas hsz,hmin,hf,hst]
    simp [execOp,ho,resolve,invoke,builtin,hcp]
   exact Oper.wp_value hrun ⟨ρ,_,_,h,hch.put hd (.int .i64 m)⟩
 |_=>rw [hqv] at hvs;cases hvs
theorem SpL.copy {ops:Array Oper} {rr:List Oper} {K:Fr->Hp->Prop} {t e id rid n m a:Nat} {s x:Operand} {l ls:List Int} (ho:o.op= .call {callee:= .builtin .copy,args:= #[s,x],argTypes:= #[t,t]}) (hd:dok o.dst N=true) (htk:tk P t= .slice e) (hsz:tsz P e=some 1)
  (hs:evA fr s= .sl 1 id a n) (hx:evA fr x= .sl 1 rid 0 m) (h1:hget H id=some (.cells 3 (.ints l))) (h2:hget H rid=some (.cells 3 (.ints ls))) (hn:a+n<=l.length) (hm:ls.length=m) (hmn:m<=n)
  (h:awL P N ops rr (fput fr o.dst (I m)) (hset H id (.cells 3 (.ints ((List.range l.length).map fun i=>if a<=i/\i-a<m then ls.getD (i-a) 0 else l.getD i 0)))) K):SpL P N ops fr H K o rr:=by
 refine SpL.ofX ?_ ?_ ?_ ?_
 ·rw [ho];rfl
 ·rw [ho];rfl
 ·rw [ho];rfl
 ·unfold awX;rw [ho];exact ⟨rfl,SpA.copy (K:=fun fr' H'=>awL P N ops rr fr' H' K) ho hd htk hsz hs hx h1 h2 hn hm hmn h⟩
theorem y6n {α:Type} {a:Array α} (h:a.size=4): ∃x0 x1 x2 x3,a= #[x0,x1,x2,x3]:=by
 obtain ⟨l⟩:=a
 match l,h with
 |[x0,x1,x2,x3],_=>exact ⟨x0,x1,x2,x3,rfl⟩
theorem y6o {α:Type} {a:Array α} (h:a.size=8): ∃x0 x1 x2 x3 x4 x5 x6 x7,a= #[x0,x1,x2,x3,x4,x5,x6,x7]:=by
 obtain ⟨l⟩:=a
 match l,h with
 |[x0,x1,x2,x3,x4,x5,x6,x7],_=>exact ⟨x0,x1,x2,x3,x4,x5,x6,x7,rfl⟩
theorem VR.I4 {w:World} {M:Nat->Prop} {ρ:Nat->Addr} {D:Nat->Prop} {v:Value} {a b c d:Int} (h:VR w M ρ D v (.agg [I a,I b,I c,I d])):v= .agg #[.int .i64 a, .int .i64 b, .int .i64 c, .int .i64 d]:=by
 obtain ⟨vs,rfl,hl,hx⟩:=h.agg_inv
 match vs,hl with
 |[v0,v1,v2,v3],_=>
  have h0:=(hx 0 v0 _ rfl rfl).int_inv
  have h1:=(hx 1 v1 _ rfl rfl).int_inv
  have h2:=(hx 2 v2 _ rfl rfl).int_inv
  have h3:=(hx 3 v3 _ rfl rfl).int_inv
  subst h0 h1 h2 h3;rfl
theorem VR.ofL {w:World} {M:Nat->Prop} {ρ:Nat->Addr} {D:Nat->Prop} (l:List Int):VR w M ρ D (.agg (l.map (Value.int .i64)).toArray) (.agg (l.map I)):=by
 refine .agg _ _ (by simp) fun i v x hv hx=>?_
 simp only [List.getElem?_map] at hv hx
 cases hq:l[i]? with
 |none=>rw [hq] at hv;cases hv
 |some n=>rw [hq] at hv hx;cases hv;cases hx;exact .int _ _
theorem y46 (k:IntKind) (n:Int):(Value.int k n).cells= #[.int k n]:=rfl
theorem y47 (a:Array Value):(Value.agg a).cells=a:=rfl
theorem SpL.build4 {ops:Array Oper} {rr:List Oper} {K:Fr->Hp->Prop} {t e:Nat} {x0 x1 x2 x3:Operand} {a b c d:Int} (ho:o.op= .build t #[(0,x0),(1,x1),(2,x2),(3,x3)]) (hd:dok o.dst N=true) (htk:tk P t= .arr 4 e) (hsz:tsz P e=some 1) (hz:tze P t=some [I 0,I 0,I 0,I 0])
  (h0:evA fr x0=I a) (h1:evA fr x1=I b) (h2:evA fr x2=I c) (h3:evA fr x3=I d) (h:awL P N ops rr (fput fr o.dst (.agg [I a,I b,I c,I d])) H K):SpL P N ops fr H K o rr:=by
 refine SpL.ofX ?_ ?_ ?_ ?_
 ·rw [ho];rfl
 ·rw [ho];simp only [quF,ygq,htk]
 ·rw [ho];rfl
 unfold awX;rw [ho]
 refine ⟨rfl,fun B w0 Mx w ρ ac hsim Q=>?_⟩
 have e0:=(h0▸hsim.ev x0).int_inv
 have e1:=(h1▸hsim.ev x1).int_inv
 have e2:=(h2▸hsim.ev x2).int_inv
 have e3:=(h3▸hsim.ev x3).int_inv
 obtain ⟨i,zv,i1,i2,i3⟩:=yc1 hz
 obtain ⟨z0,z1,z2,z3,hzz⟩:=y6n (a:=zv.cells) (by have:=congrArg List.length i3;simpa using this)
 have hrun:(execOp ac.eval o).run P w= .ok (.value (.agg #[.int .i64 a, .int .i64 b, .int .i64 c, .int .i64 d])) w:=by
  simp [execOp,ho,Instr.build,zeroValue,typeInfo,i1,i2,run_underlying (yfu htk),yas hsz,hzz,Instr.fill,e0,e1,e2,e3,y46]
 exact Oper.wp_value hrun ⟨ρ,_,_,h,hsim.put hd (VR.ofL [a,b,c,d])⟩
theorem SpL.build8 {ops:Array Oper} {rr:List Oper} {K:Fr->Hp->Prop} {t e:Nat} {x0 x1:Operand} {a b c d a' b' c' d':Int} (ho:o.op= .build t #[(0,x0),(1,x1)]) (hd:dok o.dst N=true) (htk:tk P t= .arr 2 e) (hsz:tsz P e=some 4) (hz:tze P t=some [I 0,I 0,I 0,I 0,I 0,I 0,I 0,I 0])
  (h0:evA fr x0= .agg [I a,I b,I c,I d]) (h1:evA fr x1= .agg [I a',I b',I c',I d']) (h:awL P N ops rr (fput fr o.dst (.agg [I a,I b,I c,I d,I a',I b',I c',I d'])) H K):SpL P N ops fr H K o rr:=by
 refine SpL.ofX ?_ ?_ ?_ ?_
 ·rw [ho];rfl
 ·rw [ho];simp only [quF,ygq,htk]
 ·rw [ho];rfl
 unfold awX;rw [ho]
 refine ⟨rfl,fun B w0 Mx w ρ ac hsim Q=>?_⟩
 have e0:=(h0▸hsim.ev x0).I4
 have e1:=(h1▸hsim.ev x1).I4
 obtain ⟨i,zv,i1,i2,i3⟩:=yc1 hz
 obtain ⟨z0,z1,z2,z3,z4,z5,z6,z7,hzz⟩:=y6o (a:=zv.cells) (by have:=congrArg List.length i3;simpa using this)
 have hrun:(execOp ac.eval o).run P w= .ok (.value (.agg #[.int .i64 a, .int .i64 b, .int .i64 c, .int .i64 d, .int .i64 a', .int .i64 b', .int .i64 c', .int .i64 d'])) w:=by
  simp [execOp,ho,Instr.build,zeroValue,typeInfo,i1,i2,run_underlying (yfu htk),yas hsz,hzz,Instr.fill,e0,e1,y47]
 exact Oper.wp_value hrun ⟨ρ,_,_,h,hsim.put hd (VR.ofL [a,b,c,d,a',b',c',d'])⟩
end
end Go.Proofs.YtmdjdekgakidhaaDoor
