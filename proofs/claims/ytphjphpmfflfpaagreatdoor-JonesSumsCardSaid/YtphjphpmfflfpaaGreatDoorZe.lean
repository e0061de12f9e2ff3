/- Layer 17: the states of a sweep: a map with a row of its own for each key. -/
import Derived.Test.YtphjphpmfflfpaaGreatDoorZd
import Derived.Test.YtphjphpmfflfpaaGreatDoorZc
namespace Go.Proofs.YtphjphpmfflfpaaGreatDoor
open Go Go.RowKit
set_option maxRecDepth 100000
set_option maxHeartbeats 8000000
set_option linter.unusedVariables false
set_option linter.unusedSimpArgs false
theorem Wk.vY {fr fr':Fr} {H H':Hp} (hf: ∀t,fget fr' t= .any\/(fget fr' t=fget fr t/\s3 H' (fget fr' t)=true)) (hh: ∀i o,hget H' i=some o->hget H i=some o/\sO H' o=true):Wk fr H fr' H':=by
 intro B w0 Mx N w ρ a hs;refine ⟨ρ,(hs.weaken (fun id o ho=>(hh id o ho).1) (fun t=>(hf t).imp id (·.1)) (fun id o ho M hr=>?_) (fun t M v hv=>?_))⟩
 ·have jJ:=(hh id o ho).2;cases o with
  |gone=>trivial
  |cells t c=>
   obtain ⟨k1,arr,k2,k3,k4⟩:=hr;refine ⟨k1,arr,k2,k3,fun j hj=>?_⟩;obtain ⟨u,hu,hv⟩:=k4 j hj;refine ⟨u,hu,?_⟩;cases c with
   |ints l=>exact hv.bG rfl
   |bools l=>exact hv.bG rfl
   |lst l=>
    simp only [Cs.len] at hj;simp only [Cs.get,List.getD_eq_getElem?_getD,List.getElem?_eq_getElem hj,Option.getD_some] at hv⊢;exact hv.oe (List.all_eq_true.1 jJ _ (List.getElem_mem hj))
  |gmap t ck l=>
   obtain ⟨es,k1,k2,k3⟩:=hr;exact ⟨es,k1,k2,fun j e q he hl=>let ⟨g1,g2,g3⟩:=k3 j e q he hl;⟨g1,g2,g3.oe (List.all_eq_true.1 jJ q (List.mem_of_getElem? hl))⟩⟩
  |iter mid s sn la=>
   obtain ⟨_,k2,k3⟩:=hr;exact ⟨Option.isSome_iff_exists.1 jJ,k2,k3⟩
  |imap t l=>
   obtain ⟨k0,es,ck,k1,k2,k3⟩:=hr;exact ⟨k0,es,ck,k1,k2,fun j e k x he hl=>let ⟨g1,g2,g3⟩:=k3 j e k x he hl;⟨g1,g2.oe (List.all_eq_true.1 jJ (k,x) (List.mem_of_getElem? hl)),g3⟩⟩
  |fmap t c=>exact hr
 ·rcases hf t with e|⟨_,e⟩
  ·rw [e];exact .any _
  ·exact hv.oe e
theorem Wk.w6 {F A fr:Fr} {H:Hp} (hA: ∀q∈A,fget F q.1=q.2/\q.1<1000000) (h2: ∀t,1000000<=t->fget F t=fget (lft fr) t):Wk F H (A++lft fr) H:=by
 intro B w0 Mx N w ρ a hs;refine ⟨ρ,hs.xN fun t=>?_⟩;have key: ∀(A:Fr),(∀q∈A,fget F q.1=q.2/\q.1<1000000)->fget (A++lft fr) t= .any\/fget (A++lft fr) t=fget F t:=by
  intro A
  induction A with
  |nil=>
   intro _;rw [List.nil_append];rcases Nat.lt_or_ge t 1000000 with h|h
   ·left;rw [u4,if_neg (by omega)]
   ·right;rw [h2 t h]
  |cons q A ih=>
   intro h1;obtain ⟨t',x⟩:=q;rw [List.cons_append];simp only [fget]
   split
   ·rename_i e;subst e;right;exact (h1 (t',x) (List.mem_cons_self ..)).1.symm
   ·exact ih fun q hq=>h1 q (List.mem_cons_of_mem _ hq)
 exact key A hA
structure PE where
 key:ByteArray
 lo:Int
 cs:List Int
def gmE:Nat->List PE->List (ByteArray×Nat×AV)
 |_,[]=>[]
 |i,g::G=>(g.key,i, .agg [I g.lo, .sl 1 (i+10) 0 g.cs.length])::gmE (i+1) G
def eX:Nat->List PE->Hp
 |_,[]=>[]
 |i,g::G=>(i+10, .cells 3 (.ints g.cs))::eX (i+1) G
def fk:Nat->List PE->List (ByteArray×Nat×AV)
 |_,[]=>[]
 |i,g::G=>(g.key,i,tpA g.lo g.cs)::fk (i+1) G
theorem Dd: ∀(G:List PE) (i k:Nat),hget (eX i G) k=if i+10<=k then (G[k-10-i]?).map fun g=> .cells 3 (.ints g.cs) else none
 |[],i,k=>by simp [eX,hget]
 |g::G,i,k=>by
  simp only [eX,hget];by_cases e:i+10=k
  ·subst e;simp
  ·rw [if_neg e,Dd G (i+1) k];by_cases h:i+10<=k
   ·rw [if_pos h,if_pos (by omega)]
    have:k-10-i=(k-10-(i+1))+1:=by omega
    rw [this,List.getElem?_cons_succ]
   ·rw [if_neg h,if_neg (by omega)]
theorem dE {G:List PE} {j:Nat} {g:PE} (h:G[j]?=some g):hget (eX 0 G) (j+10)=some (.cells 3 (.ints g.cs)):=by
 rw [Dd,if_pos (by omega),show j+10-10-0=j by omega,h];rfl
theorem Sj {G:List PE} {k:Nat} (h:k<10\/G.length+10<=k):hget (eX 0 G) k=none:=by
 rw [Dd]
 split
 ·rw [List.getElem?_eq_none (by omega)];rfl
 ·rfl
theorem s9: ∀(G:List PE) (i:Nat),hnew (eX i G)<=i+G.length+10
 |[],i=>by simp [eX,hnew]
 |g::G,i=>by
  have:=s9 G (i+1)
  simp only [eX,hnew,List.length_cons];omega
theorem Si (s:ByteArray) (lo:Int) (c:List Int): ∀(G:List PE) (i j:Nat),j<G.length->hset (eX i G) (i+j+10) (.cells 3 (.ints c))=eX i (G.set j ⟨s,lo,c⟩)
 |[],i,j,h=>by simp at h
 |g::G,i,0,h=>by simp [eX,hset]
 |g::G,i,j+1,h=>by
  simp only [eX,hset,List.set_cons_succ];rw [if_neg (by omega)]
  have:=Si s lo c G (i+1) j (by simpa using h)
  rw [←this];congr 2;omega
def l5 (G:List PE):Prop:=(G.map (·.key)).Nodup
theorem TI: ∀(G:List PE) (i:Nat) (s:ByteArray),(∀g∈G,g.key≠s)->lY (gmE i G) s=none
 |[],_,_,_=>rfl
 |g::G,i,s,h=>by
  have h1:=h g (List.mem_cons_self ..)
  have:=TI G (i+1) s fun g hg=>h g (List.mem_cons_of_mem _ hg)
  unfold lY at this⊢;simp only [gmE,List.find?_cons];rw [show decide (g.key=s)=false by simpa using h1];exact this
theorem Lu: ∀(G:List PE) (i j:Nat) (g:PE),l5 G->G[j]?=some g->lY (gmE i G) g.key=some (g.key,i+j, .agg [I g.lo, .sl 1 (i+j+10) 0 g.cs.length])
 |[],_,_,_,_,h=>by simp at h
 |a::G,i,0,g,hk,h=>by
  simp only [List.getElem?_cons_zero,Option.some.injEq] at h;subst h;simp [lY,gmE]
 |a::G,i,j+1,g,hk,h=>by
  simp only [List.getElem?_cons_succ] at h;unfold l5 at hk;rw [List.map_cons,List.nodup_cons] at hk;have az:a.key≠g.key:=fun e=>hk.1 (e▸List.mem_map.2 ⟨g,List.mem_of_getElem? h,rfl⟩)
  have:=Lu G (i+1) j g hk.2 h
  unfold lY at this⊢;simp only [gmE,List.find?_cons];rw [show decide (a.key=g.key)=false by simpa using az,this];simp only [show i+1+j=i+(j+1) by omega]
theorem Q0: ∀(G:List PE) (i:Nat) (g:PE),gmE i (G++[g])=gmE i G++[(g.key,i+G.length, .agg [I g.lo, .sl 1 (i+G.length+10) 0 g.cs.length])]
 |[],i,g=>by simp [gmE]
 |a::G,i,g=>by
  rw [List.cons_append];simp only [gmE,List.cons_append,Q0 G (i+1) g,List.length_cons];simp only [show i+1+G.length=i+(G.length+1) by omega]
theorem GH {φ:AV->AV}: ∀(G:List PE) (i:Nat),(∀k lo n,i<=k->k<i+G.length->φ (.agg [I lo, .sl 1 (k+10) 0 n])= .agg [I lo, .sl 1 (k+10) 0 n])->(gmE i G).map (fun q=>(q.1,q.2.1,φ q.2.2))=gmE i G
 |[],_,_=>rfl
 |a::G,i,h=>by
  simp only [gmE,List.map_cons];rw [h i _ _ (Nat.le_refl _) (by simp),GH G (i+1) fun k lo n h1 h2=>h k lo n (by omega) (by simp only [List.length_cons];omega)]
theorem J8 {φ:AV->AV} {v:AV} {lo:Int} {cs:List Int}: ∀(G:List PE) (i j:Nat) (g:PE),l5 G->G[j]?=some g->φ v= .agg [I lo, .sl 1 (i+j+10) 0 cs.length]->(∀k lo n,i<=k->k<i+G.length->k≠i+j->φ (.agg [I lo, .sl 1 (k+10) 0 n])= .agg [I lo, .sl 1 (k+10) 0 n])->
  (xa (gmE i G) g.key v).map (fun q=>(q.1,q.2.1,φ q.2.2))=gmE i (G.set j ⟨g.key,lo,cs⟩)
 |[],_,_,_,_,h,_,_=>by simp at h
 |a::G,i,0,g,hk,h,hv,hφ=>by
  simp only [List.getElem?_cons_zero,Option.some.injEq] at h;subst h;simp only [gmE,xa,if_true,List.map_cons,List.set_cons_zero,hv,Nat.add_zero];rw [GH G (i+1) fun k lo n h1 h2=>hφ k lo n (by omega) (by simp only [List.length_cons];omega) (by omega)]
 |a::G,i,j+1,g,hk,h,hv,hφ=>by
  simp only [List.getElem?_cons_succ] at h;unfold l5 at hk;rw [List.map_cons,List.nodup_cons] at hk;have az:a.key≠g.key:=fun e=>hk.1 (e▸List.mem_map.2 ⟨g,List.mem_of_getElem? h,rfl⟩);simp only [gmE,xa,if_neg az,List.map_cons,List.set_cons_succ]
  rw [hφ i _ _ (Nat.le_refl _) (by simp) (by omega),J8 (lo:=lo) (cs:=cs) G (i+1) j g hk.2 h (by rw [hv];simp only [show i+(j+1)=i+1+j by omega]) fun k lo n h1 h2 h3=>hφ k lo n (by omega) (by simp only [List.length_cons];omega) (by omega)]
theorem GG: ∀(G:List PE) (i:Nat) (q:ByteArray×Nat×AV),q∈gmE i G-> ∃k g,G[k]?=some g/\q=(g.key,i+k, .agg [I g.lo, .sl 1 (i+k+10) 0 g.cs.length])
 |[],_,_,h=>by simp [gmE] at h
 |a::G,i,q,h=>by
  simp only [gmE] at h;rcases List.mem_cons.1 h with rfl|h
  ·exact ⟨0,a,rfl,rfl⟩
  ·obtain ⟨k,g,h1,h2⟩:=GG G (i+1) q h;exact ⟨k+1,g,h1,by rw [h2];simp only [show i+1+k=i+(k+1) by omega]⟩
theorem qu: ∀(G:List PE) (i:Nat) (q:ByteArray×Nat×AV),q∈fk i G-> ∃k g,G[k]?=some g/\q=(g.key,i+k,tpA g.lo g.cs)
 |[],_,_,h=>by simp [fk] at h
 |a::G,i,q,h=>by
  simp only [fk] at h;rcases List.mem_cons.1 h with rfl|h
  ·exact ⟨0,a,rfl,rfl⟩
  ·obtain ⟨k,g,h1,h2⟩:=qu G (i+1) q h;exact ⟨k+1,g,h1,by rw [h2];simp only [show i+1+k=i+(k+1) by omega]⟩
theorem VG: ∀(G:List PE) (i k:Nat) (g:PE),G[k]?=some g->(g.key,i+k,tpA g.lo g.cs)∈fk i G
 |[],_,_,_,h=>by simp at h
 |a::G,i,0,g,h=>by
  simp only [List.getElem?_cons_zero,Option.some.injEq] at h;subst h;exact List.mem_cons_self ..
 |a::G,i,k+1,g,h=>by
  simp only [List.getElem?_cons_succ] at h
  have:=VG G (i+1) k g h
  rw [show i+1+k=i+(k+1) by omega] at this;exact List.mem_cons_of_mem _ this
theorem Rz (G0:List PE): ∀(G:List PE) (i:Nat),(∀k g,G[k]?=some g->G0[i+k]?=some g)->(gmE i G).map (fun q=>(q.1,q.2.1,bg (eX 0 G0) 4 q.2.2))=fk i G
 |[],_,_=>rfl
 |a::G,i,h=>by
  have h0:=dE (h 0 a rfl);rw [Nat.add_zero] at h0;simp only [gmE,fk,List.map_cons];rw [Rz G0 G (i+1) fun k g hk=>by rw [show i+1+k=i+(k+1) by omega];exact h (k+1) g hk];congr 3;simp only [bg,List.map_cons,List.map_nil,h0,snap];simp [Cs.n9,Cs.drop,Cs.take]
abbrev rC (sd:List PE) (sn:List Nat) (G R:List PE):Hp:=(1000004, .iter 2 sd.length sn sd.length)::(1000003, .cells 152 (.lst [.mp 1000002]))::(1000002, .gmap 152 G.length (gmE 0 G))::(2, .gmap 152 sd.length (fk 0 sd))::(1, .cells 29 (.lst [.bool false, .nils]))::(1000000, .gone)::eX 0 R
abbrev br (sd:List PE) (sn:List Nat) (G:List PE):Hp:=rC sd sn G G
theorem y2c {α:Type} {p:Prop} [Decidable p] {a:α} {b:Option α} (h:b.isSome=true):(if p then some a else b).isSome=true:=by split<;>first|rfl|exact h
theorem Js (sd:List PE) (sn:List Nat) (G:List PE): ∀i o,hget (br sd sn G) i=some o->sO (br sd sn G) o=true:=by
 intro i o h;have zR: ∀k g,G[k]?=some g->(hget (br sd sn G) (k+10)).isSome=true:=fun k g hk=>by
  simp only [hget]
  repeat refine y2c ?_
  rw [dE hk];rfl
 simp only [hget] at h
 split at h
 ·cases h;rfl
 split at h
 ·cases h;rfl
 split at h
 ·cases h;refine List.all_eq_true.2 fun q hq=>?_;obtain ⟨k,g,h1,rfl⟩:=GG _ _ _ hq
  have:=zR k g h1
  simp only [Nat.zero_add] at this⊢;simp only [s3,s2,s1,List.all_cons,List.all_nil,this,Bool.and_self]
 split at h
 ·cases h;refine List.all_eq_true.2 fun q hq=>?_;obtain ⟨k,g,h1,rfl⟩:=qu _ _ _ hq;rfl
 split at h
 ·cases h;rfl
 split at h
 ·cases h;rfl
 ·rw [Dd] at h
  split at h
  ·obtain ⟨g,_,rfl⟩:=Option.map_eq_some_iff.1 h;rfl
  ·cases h
def dF:Hp:=[(1, .gone),(2, .gone),(1000002, .gone),(1000003, .gone),(1000004, .gone)]
theorem BH {k:Nat} (h:(hget dF k).isSome=true):k=1\/k=2\/k=1000002\/k=1000003\/k=1000004:=by
 simp only [dF,hget] at h
 split at h
 ·omega
 split at h
 ·omega
 split at h
 ·omega
 split at h
 ·omega
 split at h
 ·omega
 ·cases h
theorem xq {H H':Hp} (hm: ∀k,(hget H k).isSome=true->(hget H' k).isSome=true): ∀(x:AV),s1 H x=true->s1 H' x=true
 | .ptr i _,h=>hm i h
 | .sl _ i _ _,h=>hm i h
 | .mp i,h=>hm i h
 | .agg _,h=>h
 | .tup _,h=>h
 | .fn _ _,h=>h
 | .any,h=>h
 | .int _ _,h=>h
 | .bool _,h=>h
 | .str _,h=>h
 | .nils,h=>h
 | .ro _ _ _,h=>h
 | .rp _ _,h=>h
theorem Kw {H H':Hp} (hm: ∀k,(hget H k).isSome=true->(hget H' k).isSome=true): ∀(x:AV),s2 H x=true->s2 H' x=true
 | .ptr i o,h=>xq hm (.ptr i o) h
 | .sl e i o l,h=>xq hm (.sl e i o l) h
 | .mp i,h=>xq hm (.mp i) h
 | .agg xs,h=>List.all_eq_true.2 fun y hy=>xq hm y (List.all_eq_true.1 h y hy)
 | .tup _,h=>h
 | .fn _ xs,h=>List.all_eq_true.2 fun y hy=>xq hm y (List.all_eq_true.1 h y hy)
 | .any,h=>h
 | .int _ _,h=>h
 | .bool _,h=>h
 | .str _,h=>h
 | .nils,h=>h
 | .ro _ _ _,h=>h
 | .rp _ _,h=>h
theorem uU {H H':Hp} (hm: ∀k,(hget H k).isSome=true->(hget H' k).isSome=true): ∀(x:AV),s3 H x=true->s3 H' x=true
 | .ptr i o,h=>xq hm (.ptr i o) h
 | .sl e i o l,h=>xq hm (.sl e i o l) h
 | .mp i,h=>xq hm (.mp i) h
 | .agg xs,h=>List.all_eq_true.2 fun y hy=>Kw hm y (List.all_eq_true.1 h y hy)
 | .tup xs,h=>List.all_eq_true.2 fun y hy=>Kw hm y (List.all_eq_true.1 h y hy)
 | .fn _ xs,h=>List.all_eq_true.2 fun y hy=>Kw hm y (List.all_eq_true.1 h y hy)
 | .any,h=>h
 | .int _ _,h=>h
 | .bool _,h=>h
 | .str _,h=>h
 | .nils,h=>h
 | .ro _ _ _,h=>h
 | .rp _ _,h=>h
theorem Dc {i j n:Nat} {xs:List AV} (h: ∀x∈xs,swV i j n x=x):xs.map (swV i j n)=xs:=by
 conv=>rhs;rw [←List.map_id xs]
 exact List.map_congr_left h
section
variable {i j:Nat} (hi:(hget dF i).isSome=false) (hj:(hget dF j).isSome=false)
include hi hj
theorem Kv (k:Nat) (hk:(hget dF k).isSome=true):swI i j k=k:=by
 unfold swI;rw [if_neg (fun e=>by rw [e,hi] at hk;cases hk),if_neg (fun e=>by rw [e,hj] at hk;cases hk)]
theorem xp (n:Nat): ∀(x:AV),s1 dF x=true->swV i j (n+1) x=x
 | .ptr k o,h=>by simp only [swV,Kv hi hj k h]
 | .sl e k o l,h=>by simp only [swV,Kv hi hj k h]
 | .mp k,h=>by simp only [swV,Kv hi hj k h]
 | .agg _,h=>by cases h
 | .tup _,h=>by cases h
 | .fn _ _,h=>by cases h
 | .any,h=>rfl
 | .int _ _,h=>rfl
 | .bool _,h=>rfl
 | .str _,h=>rfl
 | .nils,h=>rfl
 | .ro _ _ _,h=>rfl
 | .rp _ _,h=>rfl
theorem Ku (n:Nat): ∀(x:AV),s2 dF x=true->swV i j (n+2) x=x
 | .agg xs,h=>by show AV.agg (xs.map (swV i j (n+1)))=_;rw [Dc fun y hy=>xp hi hj n y (List.all_eq_true.1 h y hy)]
 | .tup _,h=>by cases h
 | .fn f xs,h=>by show AV.fn f (xs.map (swV i j (n+1)))=_;rw [Dc fun y hy=>xp hi hj n y (List.all_eq_true.1 h y hy)]
 | .ptr k o,h=>xp hi hj (n+1) (.ptr k o) h
 | .sl e k o l,h=>xp hi hj (n+1) (.sl e k o l) h
 | .mp k,h=>xp hi hj (n+1) (.mp k) h
 | .any,h=>rfl
 | .int _ _,h=>rfl
 | .bool _,h=>rfl
 | .str _,h=>rfl
 | .nils,h=>rfl
 | .ro _ _ _,h=>rfl
 | .rp _ _,h=>rfl
theorem ND (n:Nat): ∀(x:AV),s3 dF x=true->swV i j (n+3) x=x
 | .agg xs,h=>by show AV.agg (xs.map (swV i j (n+2)))=_;rw [Dc fun y hy=>Ku hi hj n y (List.all_eq_true.1 h y hy)]
 | .tup xs,h=>by show AV.tup (xs.map (swV i j (n+2)))=_;rw [Dc fun y hy=>Ku hi hj n y (List.all_eq_true.1 h y hy)]
 | .fn f xs,h=>by show AV.fn f (xs.map (swV i j (n+2)))=_;rw [Dc fun y hy=>Ku hi hj n y (List.all_eq_true.1 h y hy)]
 | .ptr k o,h=>xp hi hj (n+2) (.ptr k o) h
 | .sl e k o l,h=>xp hi hj (n+2) (.sl e k o l) h
 | .mp k,h=>xp hi hj (n+2) (.mp k) h
 | .any,h=>rfl
 | .int _ _,h=>rfl
 | .bool _,h=>rfl
 | .str _,h=>rfl
 | .nils,h=>rfl
 | .ro _ _ _,h=>rfl
 | .rp _ _,h=>rfl
end
theorem Sh {k:Nat} (h:1000005<=k\/(3<=k/\k<1000000)):(hget dF k).isSome=false:=by
 cases hq:(hget dF k).isSome with
 |false=>rfl
 |true=>have:=BH hq;omega
theorem Gd {fr:Fr} {H:Hp} (h:fr.all (fun q=>s3 H q.2)=true) (t:Nat):fget fr t= .any\/s3 H (fget fr t)=true:=by
 induction fr with
 |nil=>exact .inl rfl
 |cons q fr ih=>
  obtain ⟨s,x⟩:=q;simp only [List.all_cons,Bool.and_eq_true] at h;simp only [fget]
  split
  ·exact .inr h.1
  ·exact ih h.2
theorem Jr {sd G:List PE} {sn:List Nat} {F fr:Fr} {X:Hp} (aM r:Nat) {l:List (ByteArray×Nat×AV)} (hn:1000005<=aM) (hr:10<=r/\r<1000000) (hG:G.length<=900000)
  (h4:hget X 1000004=some (.iter 2 sd.length sn sd.length)) (h3:hget X 1000003=some (.cells 152 (.lst [.mp 1000002]))) (h2:hget X 1000002=some (.gmap 152 G.length l)) (hl:l.map (fun q=>(q.1,q.2.1,swV aM r 4 q.2.2))=gmE 0 G)
  (h5:hget X 2=some (.gmap 152 sd.length (fk 0 sd))) (h1:hget X 1=some (.cells 29 (.lst [.bool false, .nils]))) (h0:hget X 1000000=some .gone)
  (zR: ∀k g,G[k]?=some g->hget X (swI aM r (k+10))=some (.cells 3 (.ints g.cs))) (dA:fr.all (fun q=>s3 dF q.2)=true) (hF: ∀t,1000000<=t->fget F t=fget (lft fr) t):Wk F X (lft fr) (br sd sn G):=by
 have on:=Sh (k:=aM) (.inl hn);have or':=Sh (k:=r) (.inr ⟨by omega,hr.2⟩);have gm: ∀k,k≠aM->k≠r->swI aM r k=k:=fun k a b=>by unfold swI;rw [if_neg a,if_neg b]
 refine (Wk.swap aM r F X).trans (Wk.vY (fun t=>?_) fun i o h=>⟨?_,Js sd sn G i o h⟩)
 ·rcases Nat.lt_or_ge t 1000000 with ht|ht
  ·left;rw [u4,if_neg (by omega)]
  ·rw [K9,hF t ht,u4,if_pos ht];rcases Gd dA (t-1000000) with g|g
   ·left;exact g
   ·right;refine ⟨(ND on or' 1 _ g).symm,uU (fun k hk=>?_) _ g⟩;rcases BH hk with e|e|e|e|e<;>subst e<;>rfl
 ·rw [Ti];simp only [hget] at h
  split at h
  ·rename_i e;subst e;rw [gm _ (by omega) (by omega),h4];cases h;simp only [Option.map_some,swO];rw [gm _ (by omega) (by omega)]
  split at h
  ·rename_i e;subst e;rw [gm _ (by omega) (by omega),h3];cases h;simp only [Option.map_some,swO,List.map_cons,List.map_nil,swV];rw [gm _ (by omega) (by omega)]
  split at h
  ·rename_i e;subst e;rw [gm _ (by omega) (by omega),h2];cases h;simp only [Option.map_some,swO,hl]
  split at h
  ·rename_i e;subst e;rw [gm _ (by omega) (by omega),h5];cases h;simp only [Option.map_some,swO]
   congr 2
   conv=>rhs;rw [←List.map_id (fk 0 sd)]
   exact List.map_congr_left fun q hq=>by obtain ⟨k,g,_,rfl⟩:=qu _ _ _ hq;rfl
  split at h
  ·rename_i e;subst e;rw [gm _ (by omega) (by omega),h1];cases h;rfl
  split at h
  ·rename_i e;subst e;rw [gm _ (by omega) (by omega),h0];cases h;rfl
  ·rw [Dd] at h
   split at h
   ·rename_i hi
    obtain ⟨g,g1,rfl⟩:=Option.map_eq_some_iff.1 h
    have:=zR (i-10-0) g g1
    rw [show i-10-0+10=i by omega] at this;rw [this];rfl
   ·cases h
section
variable {P:Program} {N:Nat} {fr:Fr} {H:Hp} {K:Fr->Hp->Prop} {o:Oper}
theorem mJ.copy {t e id rid n m a:Nat} {s x:Operand} {l ls:List Int} (ho:o.op= .call {callee:= .builtin .copy,args:= #[s,x],argTypes:= #[t,t]}) (hd:dok o.dst N=true) (dH:tk P t= .slice e) (gM:tsz P e=some 1)
  (hs:evA fr s= .sl 1 id a n) (hx:evA fr x= .sl 1 rid 0 m) (h1:hget H id=some (.cells 3 (.ints l))) (h2:hget H rid=some (.cells 3 (.ints ls))) (hn:a+n<=l.length) (hm:ls.length=m) (Iu:m<=n)
  (h:K (fput fr o.dst (I m)) (hset H id (.cells 3 (.ints ((List.range l.length).map fun i=>if a<=i/\i-a<m then ls.getD (i-a) 0 else l.getD i 0))))):mJ P N o K fr H:=by
 intro B w0 Mx w ρ ac c7 Q;have rI:=c7.ev s;have WZ:=c7.ev x;rw [hs] at rI;rw [hx] at WZ;obtain ⟨A,c,news,e1,mh,kk,sH,sG,tz⟩:=B2 (es:=1) (q:=0+m*1<=(Cs.ints ls).len) (m:=m) (d:=some ((Cs.ints ls).n9 0 (m*1))) c7.objs WZ (by simp only [srcF,if_true,h2]) (by simp [Cs.len,hm]);have jF:news.length=m:=by omega
 obtain ⟨eZ,arr,hb,hl,fA⟩:=c7.objs id _ h1;simp only [Cs.len] at hl fA;cases Py:ac.eval s with
 |slice ad len cap=>
  rw [Py] at rI;cases rI with
  |sl es bX oj len' cap' hdd hc bo t' ad' ha my hr=>
   have cR: ∀z∈news,fT z:=fun z hz=>by
    obtain ⟨i,hi⟩:=List.mem_iff_getElem?.1 hz;exact (tz i z hi).fT rfl
   have FF:(ρ id).add a=⟨(ρ id).block,(ρ id).off+a,none⟩:=sB eZ a;obtain ⟨w',arr2,r1,r2,r3,r4,r5,r6,r7,r8,r9⟩:=Dz (P:=P) (b:=(ρ id).block) (t:=3) (o:=(ρ id).off+a) news 0 w arr hb (by omega) cR;have nW:=c7.change (c':= .ints ((List.range l.length).map fun i=>if a<=i/\i-a<m then ls.getD (i-a) 0 else l.getD i 0)) h1 hb r2 r3 r4 r5 r6 r7 r8 (by simp [Cs.len];omega) (fun j hj=>by
    simp only [Cs.len,List.length_map,List.length_range] at hj;rw [r9];simp only [Cs.get,List.getD_eq_getElem?_getD,List.getElem?_map,List.getElem?_range hj,Option.map_some,Option.getD_some];by_cases c1:a<=j/\j-a<m
    ·rw [if_pos c1,if_pos (by omega)];have e2:(ρ id).off+j-((ρ id).off+a+0)=j-a:=by omega
     rw [e2];have aG:j-a<news.length:=by omega
     refine ⟨news[j-a],List.getElem?_eq_getElem aG,?_⟩
     have:=tz (j-a) _ (List.getElem?_eq_getElem aG)
     simp only [jU,Cs.get,Cs.n9,Cs.drop,Cs.take,List.getD_eq_getElem?_getD,List.drop_zero,List.getElem?_take] at this;rw [if_pos (by omega)] at this;exact this
    ·rw [if_neg c1,if_neg (by omega)];obtain ⟨u,g1,g2⟩:=fA j hj;exact ⟨u,g1,by simpa [Cs.get,List.getD_eq_getElem?_getD] using g2⟩)
   have hf:=LO (P:=P) (w:=w) (es:=1) (n:=m) (c:=c) (A:=A) (news:=news) (by omega) sG sH;have aQ:(execOp ac.eval o).run P w= .ok (.value (goInt m)) w':=by
    have bH:(storeCells ad' news 0).run P w= .ok () w':=by
     by_cases qP:0<cap
     ·rw [ha qP,FF];exact r1
     ·have jM:news=[]:=List.eq_nil_of_length_eq_zero (by omega);subst jM;simp [storeCells] at r1⊢;exact r1
    have tL:Nat.min m n=m:=Nat.min_eq_left Iu;have pq:(Builtin.copy_ #[t,t] o.type #[ac.eval s,ac.eval x]).run P w= .ok (goInt m) w':=by
     simp [Builtin.copy_,run_underlying (jb dH),Py,e1,Builtin.lenOf,mM gM,tL,hf,bH]
    simp [execOp,ho,resolve,invoke,builtin,pq]
   exact Oper.dh aQ ⟨ρ,_,_,h,nW.put hd (.int .i64 m)⟩
 |_=>rw [Py] at rI;cases rI
theorem fb.copy {ops:Array Oper} {rr:List Oper} {K:Fr->Hp->Prop} {t e id rid n m a:Nat} {s x:Operand} {l ls:List Int} (ho:o.op= .call {callee:= .builtin .copy,args:= #[s,x],argTypes:= #[t,t]}) (hd:dok o.dst N=true) (dH:tk P t= .slice e) (gM:tsz P e=some 1)
  (hs:evA fr s= .sl 1 id a n) (hx:evA fr x= .sl 1 rid 0 m) (h1:hget H id=some (.cells 3 (.ints l))) (h2:hget H rid=some (.cells 3 (.ints ls))) (hn:a+n<=l.length) (hm:ls.length=m) (Iu:m<=n)
  (h:awL P N ops rr (fput fr o.dst (I m)) (hset H id (.cells 3 (.ints ((List.range l.length).map fun i=>if a<=i/\i-a<m then ls.getD (i-a) 0 else l.getD i 0)))) K):fb P N ops fr H K o rr:=by
 refine fb.xW ?_ ?_ ?_ ?_
 ·rw [ho];rfl
 ·rw [ho];rfl
 ·rw [ho];rfl
 ·unfold awX;rw [ho];exact ⟨rfl,mJ.copy (K:=fun fr' H'=>awL P N ops rr fr' H' K) ho hd dH gM hs hx h1 h2 hn hm Iu h⟩
theorem DS {α:Type} {a:Array α} (h:a.size=4): ∃x0 x1 x2 x3,a= #[x0,x1,x2,x3]:=by
 obtain ⟨l⟩:=a
 match l,h with
 |[x0,x1,x2,x3],_=>exact ⟨x0,x1,x2,x3,rfl⟩
theorem DR {α:Type} {a:Array α} (h:a.size=8): ∃x0 x1 x2 x3 x4 x5 x6 x7,a= #[x0,x1,x2,x3,x4,x5,x6,x7]:=by
 obtain ⟨l⟩:=a
 match l,h with
 |[x0,x1,x2,x3,x4,x5,x6,x7],_=>exact ⟨x0,x1,x2,x3,x4,x5,x6,x7,rfl⟩
theorem VR.I4 {w:World} {M:Nat->Prop} {ρ:Nat->Addr} {D:Nat->Prop} {v:Value} {a b c d:Int} (h:VR w M ρ D v (.agg [I a,I b,I c,I d])):v= .agg #[.int .i64 a, .int .i64 b, .int .i64 c, .int .i64 d]:=by
 obtain ⟨vs,rfl,hl,hx⟩:=h.bp
 match vs,hl with
 |[v0,v1,v2,v3],_=>
  have h0:=(hx 0 v0 _ rfl rfl).av;have h1:=(hx 1 v1 _ rfl rfl).av;have h2:=(hx 2 v2 _ rfl rfl).av;have h3:=(hx 3 v3 _ rfl rfl).av;subst h0 h1 h2 h3;rfl
theorem VR.WA {w:World} {M:Nat->Prop} {ρ:Nat->Addr} {D:Nat->Prop} (l:List Int):VR w M ρ D (.agg (l.map (Value.int .i64)).toArray) (.agg (l.map I)):=by
 refine .agg _ _ (by simp) fun i v x hv hx=>?_;simp only [List.getElem?_map] at hv hx;cases hq:l[i]? with
 |none=>rw [hq] at hv;cases hv
 |some n=>rw [hq] at hv hx;cases hv;cases hx;exact .int _ _
theorem MU (k:IntKind) (n:Int):(Value.int k n).cells= #[.int k n]:=rfl
theorem MT (a:Array Value):(Value.agg a).cells=a:=rfl
theorem fb.uB {ops:Array Oper} {rr:List Oper} {K:Fr->Hp->Prop} {t e:Nat} {x0 x1 x2 x3:Operand} {a b c d:Int} (ho:o.op= .build t #[(0,x0),(1,x1),(2,x2),(3,x3)]) (hd:dok o.dst N=true) (dH:tk P t= .arr 4 e) (gM:tsz P e=some 1) (hz:tze P t=some [I 0,I 0,I 0,I 0])
  (h0:evA fr x0=I a) (h1:evA fr x1=I b) (h2:evA fr x2=I c) (h3:evA fr x3=I d) (h:awL P N ops rr (fput fr o.dst (.agg [I a,I b,I c,I d])) H K):fb P N ops fr H K o rr:=by
 refine fb.xW ?_ ?_ ?_ ?_
 ·rw [ho];rfl
 ·rw [ho];simp only [quF,yjl,dH]
 ·rw [ho];rfl
 unfold awX;rw [ho];refine ⟨rfl,fun B w0 Mx w ρ ac c7 Q=>?_⟩;have e0:=(h0▸c7.ev x0).av;have e1:=(h1▸c7.ev x1).av;have e2:=(h2▸c7.ev x2).av;have e3:=(h3▸c7.ev x3).av;obtain ⟨i,zv,i1,i2,i3⟩:=xA hz;obtain ⟨z0,z1,z2,z3,Em⟩:=DS (a:=zv.cells) (by have:=congrArg List.length i3;simpa using this)
 have aQ:(execOp ac.eval o).run P w= .ok (.value (.agg #[.int .i64 a, .int .i64 b, .int .i64 c, .int .i64 d])) w:=by
  simp [execOp,ho,Instr.build,zeroValue,typeInfo,i1,i2,run_underlying (y6 dH),mM gM,Em,Instr.fill,e0,e1,e2,e3,MU]
 exact Oper.dh aQ ⟨ρ,_,_,h,c7.put hd (VR.WA [a,b,c,d])⟩
theorem fb.AK {ops:Array Oper} {rr:List Oper} {K:Fr->Hp->Prop} {t e:Nat} {x0 x1:Operand} {a b c d a' b' c' d':Int} (ho:o.op= .build t #[(0,x0),(1,x1)]) (hd:dok o.dst N=true) (dH:tk P t= .arr 2 e) (gM:tsz P e=some 4) (hz:tze P t=some [I 0,I 0,I 0,I 0,I 0,I 0,I 0,I 0])
  (h0:evA fr x0= .agg [I a,I b,I c,I d]) (h1:evA fr x1= .agg [I a',I b',I c',I d']) (h:awL P N ops rr (fput fr o.dst (.agg [I a,I b,I c,I d,I a',I b',I c',I d'])) H K):fb P N ops fr H K o rr:=by
 refine fb.xW ?_ ?_ ?_ ?_
 ·rw [ho];rfl
 ·rw [ho];simp only [quF,yjl,dH]
 ·rw [ho];rfl
 unfold awX;rw [ho];refine ⟨rfl,fun B w0 Mx w ρ ac c7 Q=>?_⟩;have e0:=(h0▸c7.ev x0).I4;have e1:=(h1▸c7.ev x1).I4;obtain ⟨i,zv,i1,i2,i3⟩:=xA hz;obtain ⟨z0,z1,z2,z3,z4,z5,z6,z7,Em⟩:=DR (a:=zv.cells) (by have:=congrArg List.length i3;simpa using this)
 have aQ:(execOp ac.eval o).run P w= .ok (.value (.agg #[.int .i64 a, .int .i64 b, .int .i64 c, .int .i64 d, .int .i64 a', .int .i64 b', .int .i64 c', .int .i64 d'])) w:=by
  simp [execOp,ho,Instr.build,zeroValue,typeInfo,i1,i2,run_underlying (y6 dH),mM gM,Em,Instr.fill,e0,e1,MT]
 exact Oper.dh aQ ⟨ρ,_,_,h,c7.put hd (VR.WA [a,b,c,d,a',b',c',d'])⟩
end
def Bt:List (List Nat):=[[58,59,60,61,62,64,65],[57,60,64,65],[57,60,64,65],[57,58,59,64,65],[57,64,65],[57,64,65],[64,65],[57,58,59,60,61,62,63],[57,58,59,60,61,62,63],[]]
def VF:Tr:= .node [(0, .node [(3, .node [(1, .node [(2, .node [(4, .node [(5, .node [(6, .node [(7, .node [(8, .node [(9, .done)])])])]),(7, .node [(5, .node [(6, .node [(8, .node [(9, .done)])])]),(8, .node [(5, .node [(6, .node [(9, .done)])])])])]),(7, .node [(4, .node [(5, .node [(6, .node [(8, .node [(9, .done)])])]),(8, .node [(5, .node [(6, .node [(9, .done)])])])]),(8, .node [(4, .node [(5, .node [(6, .node [(9, .done)])])])])])]),(7, .node [(2, .node [(4, .node [(5, .node [(6, .node [(8, .node [(9, .done)])])]),(8, .node [(5, .node [(6, .node [(9, .done)])])])]),(8, .node [(4, .node [(5, .node [(6, .node [(9, .done)])])])])]),(8, .node [(2, .node [(4, .node [(5, .node [(6, .node [(9, .done)])])])])])])]),(7, .node [(1, .node [(2, .node [(4, .node [(5, .node [(6, .node [(8, .node [(9, .done)])])]),(8, .node [(5, .node [(6, .node [(9, .done)])])])]),(8, .node [(4, .node [(5, .node [(6, .node [(9, .done)])])])])]),(8, .node [(2, .node [(4, .node [(5, .node [(6, .node [(9, .done)])])])])])]),(8, .node [(1, .node [(2, .node [(4, .node [(5, .node [(6, .node [(9, .done)])])])])])])])])])]
theorem ywg: ∀fr:Fr,unl (lft fr)=fr
 |[]=>rfl
 |(s,x)::r=>by simp [lft,unl,ywg r]
attribute [go_sem] ywg
def iB (r:List Int) (b:Nat) (q:List Int) (k:Nat):List Int:=(List.range r.length).map fun i=>r.getD i 0+if b<=i/\i-b<k then q.getD (i-b) 0 else 0
theorem vO (r:List Int) (b:Nat) (q:List Int) (k:Nat):(iB r b q k).length=r.length:=by simp [iB]
theorem yP (r:List Int) (b:Nat) (q:List Int):iB r b q 0=r:=by
 apply List.ext_getElem?;intro i;by_cases h:i<r.length<;>simp [iB,h]
theorem CQ (r:List Int) (b:Nat) (q:List Int) (k i:Nat) (h:i<r.length):(iB r b q k).getD i 0=r.getD i 0+if b<=i/\i-b<k then q.getD (i-b) 0 else 0:=by
 simp [iB,List.getD_eq_getElem?_getD,h]
theorem Sg (r:List Int) (b:Nat) (q:List Int) (k:Nat) (h:b+k<r.length):(iB r b q k).set (b+k) ((iB r b q k).getD (b+k) 0+q.getD k 0)=iB r b q (k+1):=by
 rw [CQ _ _ _ _ _ h,if_neg (by omega)];apply List.ext_getElem?;intro i;rw [List.getElem?_set,vO];by_cases e:b+k=i
 ·subst e;rw [if_pos rfl,if_pos h];simp only [iB,List.getElem?_map,List.getElem?_range h,Option.map_some];rw [if_pos (by omega),show b+k-b=k by omega];simp
 ·rw [if_neg e];by_cases hi:i<r.length
  ·simp only [iB,List.getElem?_map,List.getElem?_range hi,Option.map_some]
   have:(b<=i/\i-b<k)=(b<=i/\i-b<k+1):=propext ⟨fun h=>by omega,fun h=>by omega⟩
   simp only [this]
  ·simp [iB,hi]
def dP (a:Nat) (p:List Int) (N:Nat):List Int:=(List.range N).map fun i=>if a<=i/\i-a<p.length then p.getD (i-a) 0 else 0
theorem zn (a:Nat) (p:List Int) (N:Nat):(dP a p N).length=N:=by simp [dP]
theorem y48 (a:Nat) (p:List Int) (N:Nat):((List.range (List.replicate N (0:Int)).length).map fun i=>if a<=i/\i-a<p.length then p.getD (i-a) 0 else (List.replicate N (0:Int)).getD i 0)=dP a p N:=by
 unfold dP;rw [List.length_replicate];refine List.map_congr_left fun i hi=>?_
 have:=List.mem_range.1 hi
 simp [List.getD_eq_getElem?_getD,this]
theorem y49 {α:Type} {l:List α} {j:Nat} {x:α} (h:l[j]?=some x):l.set j x=l:=by
 apply List.ext_getElem?;intro i;rw [List.getElem?_set]
 split
 ·rename_i e;subst e;rw [if_pos (List.getElem?_eq_some_iff.1 h).1,h]
 ·rfl
abbrev H4 (g:PE) (lo:Int) (cs:List Int) (r:Nat):Hp:=[(1000006, .cells 151 (.lst [I g.lo, .sl 1 r 0 g.cs.length])),(1000005, .cells 151 (.lst [I lo,roI cs]))]
theorem YO (sd:List PE) (sn:List Nat) (G:List PE) (j b r:Nat) (g:PE) (cs:List Int) (hG:G.length<=900000) (hj:G[j]?=some g) (hr:r=j+10) (hb:b+cs.length<=g.cs.length) (hl:g.cs.length<=1000000) (lN: -1000000<=g.lo/\g.lo<=1000000)
  (iA: ∀i,-1152921504606846976<=g.cs.getD i 0/\g.cs.getD i 0<=1152921504606846976) (rU: ∀i,-1152921504606846976<=cs.getD i 0/\cs.getD i 0<=1152921504606846976) {fr:Fr} {K:AV->Fr->Hp->Prop}
  (hK:K (.agg [I g.lo, .sl 1 r 0 g.cs.length]) fr ([(1000009, .cells 151 (.lst [I g.lo, .sl 1 r 0 g.cs.length])),(1000008, .cells 151 (.lst [I (g.lo+2*(b:Int)),roI cs])),(1000007, .cells 151 (.lst [I g.lo, .sl 1 r 0 g.cs.length]))]++H4 g (g.lo+2*(b:Int)) cs r++rC sd sn G (G.set j ⟨g.key,g.lo,iB g.cs b cs cs.length⟩))):
  fM Tryz.prog 145 [.agg [I g.lo, .sl 1 r 0 g.cs.length],tpA (g.lo+2*(b:Int)) cs] fr (H4 g (g.lo+2*(b:Int)) cs r++br sd sn G) K:=by
 have cO:j<G.length:=(List.getElem?_eq_some_iff.1 hj).1;have j9:max 1000001 (hnew (eX 0 G))=1000001:=by have:=s9 G 0;omega
 have b0:decide (g.lo+2*(b:Int)<g.lo)=false:=by rw [decide_eq_false_iff_not];omega
 have b1:decide (g.lo+2*(g.cs.length:Int)<g.lo+2*(b:Int)+2*(cs.length:Int))=false:=by rw [decide_eq_false_iff_not];omega
 refine fM.intro [.cell 4 151] Tryz.func145 rfl rfl (by decide) (by simp [Tryz.ntmps145]) ?_;rw [Tryz.ntmps145]
 repeat' (first|omega|(first|apply ag|(refine an.intro (id:=5) Bt [[],[0],[0],[0,1,2],[0],[0],[],[0,1,2,3,4,5,6],[0,1,2,3,4,5,6],[]] (by decide+kernel) mixed ?_)|skip);simp only [go_sem,sevalprocAttr,j9,b0,b1,↓reduceIte,reduceCtorEq,Bt]|apply ah<;>(intro h_;(try simp only [h_]);revert h_)|apply ai|apply aj|apply ae|apply And.intro|with_reducible intro h_|trivial|simp only [go_sem,ak];omega)
 have n4:(1000004=r)=False:=eq_false (by omega);have n3:(1000003=r)=False:=eq_false (by omega);have n2:(1000002=r)=False:=eq_false (by omega);have n1:(2=r)=False:=eq_false (by omega);have n0:(1=r)=False:=eq_false (by omega);have n5:(1000000=r)=False:=eq_false (by omega);have m5:(1000005=r)=False:=eq_false (by omega);have m6:(1000006=r)=False:=eq_false (by omega)
 have m7:(1000007=r)=False:=eq_false (by omega);have m8:(1000008=r)=False:=eq_false (by omega);have m9:(1000009=r)=False:=eq_false (by omega);have oC: ∀k c,hset (eX 0 (G.set j ⟨g.key,g.lo,iB g.cs b cs k⟩)) r (.cells 3 (.ints c))=eX 0 (G.set j ⟨g.key,g.lo,c⟩):=fun k c=>by
  have:=Si g.key g.lo c (G.set j ⟨g.key,g.lo,iB g.cs b cs k⟩) 0 j (by simpa using cO)
  rw [Nat.zero_add,←hr,List.set_set] at this;exact this
 have E6: ∀k,hget (eX 0 (G.set j ⟨g.key,g.lo,iB g.cs b cs k⟩)) r=some (.cells 3 (.ints (iB g.cs b cs k))):=fun k=>by
  rw [hr];exact dE (G:=G.set j ⟨g.key,g.lo,iB g.cs b cs k⟩) (g:=⟨g.key,g.lo,iB g.cs b cs k⟩) (by simp [cO])
 refine bV.intro (fun n fr' H=> ∃i:Nat,i<=cs.length/\n=cs.length-i/\fr'=[(73,I i),(72,I cs.length),(71,roI cs),(4, .ptr 1000009 0),(3, .ptr 1000008 0),(2, .ptr 1000007 0)]++lft fr/\
  H=(1000009, .cells 151 (.lst [I 0, .nils]))::(1000008, .cells 151 (.lst [I (g.lo+2*(b:Int)),roI cs]))::(1000007, .cells 151 (.lst [I g.lo, .sl 1 r 0 g.cs.length]))::(1000006, .cells 151 (.lst [I g.lo, .sl 1 r 0 g.cs.length]))::(1000005, .cells 151 (.lst [I (g.lo+2*(b:Int)),roI cs]))::rC sd sn G (G.set j ⟨g.key,g.lo,iB g.cs b cs i⟩)) ?_ ?_
 ·refine ⟨_,_,_,?_,0,by omega,rfl,rfl,rfl⟩;rw [yP,show (G.set j ⟨g.key,g.lo,g.cs⟩)=G from y49 hj];refine Wk.w6 ?_ (fun t ht=>?_)
  ·simp only [go_sem,sevalprocAttr,List.forall_mem_cons]
  ·simp only [fget]
   repeat rw [if_neg (by omega)]
 rintro n fr' H ⟨i,hi,rfl,rfl,rfl⟩;by_cases fi:i<cs.length
 ·have bi:decide ((i:Int)<cs.length)=true:=by simp;omega
  have e1:(g.lo+2*(b:Int)-g.lo).tdiv 2=b:=by rw [show g.lo+2*(b:Int)-g.lo=(b:Int)*2 by omega,Int.mul_tdiv_cancel _ (by decide)]
  have e2:((b:Int)+i).toNat=b+i:=by omega
  have st:=Sg g.cs b cs i (by omega);have al:=vO g.cs b cs i;have a1:=CQ g.cs b cs i (b+i) (by omega);rw [if_neg (by omega),Int.add_zero] at a1;have c1:=iA (b+i);have c2:=rU i;have gi:=E6 i;have hs:=oC i;rw [←a1] at c1
  repeat' (first|omega|(try apply ag);simp only [go_sem,sevalprocAttr,bi,e1,e2,n0,n1,n2,n3,n4,n5,m5,m6,m7,m8,m9,gi,hs,al,st]|apply ah<;>(intro h_;(try simp only [h_]);revert h_)|apply ai|apply aj|apply ae|apply And.intro|with_reducible intro h_|trivial|simp only [go_sem,ak];omega)
  refine ⟨_,_,_,?_,?_,i+1,by omega,rfl,rfl,rfl⟩
  ·omega
  ·refine Wk.w6 (A:=[(73,I ((i+1:Nat):Int)),(72,I cs.length),(71,roI cs),(4, .ptr 1000009 0),(3, .ptr 1000008 0),(2, .ptr 1000007 0)]) ?_ (fun t ht=>?_)
   ·simp only [go_sem,sevalprocAttr,List.forall_mem_cons]
   ·simp only [fget]
    repeat rw [if_neg (by omega)]
 ·obtain rfl:i=cs.length:=by omega
  have bi:decide ((cs.length:Int)<cs.length)=false:=by simp
  repeat' (first|omega|(first|apply ag|(refine an.intro (id:=5) Bt [[],[0],[0],[0,1,2],[0],[0],[],[0,1,2,3,4,5,6],[0,1,2,3,4,5,6],[]] (by decide+kernel) mixed ?_)|skip);simp only [go_sem,sevalprocAttr,bi,↓reduceIte,reduceCtorEq,Bt]|apply ah<;>(intro h_;(try simp only [h_]);revert h_)|apply ai|apply aj|apply ae|apply And.intro|with_reducible intro h_|trivial|simp only [go_sem,ak];omega)
  all_goals exact hK
theorem Y1 (sd:List PE) (sn:List Nat) (G:List PE) (j a b N r:Nat) (dU:Int) (g:PE) (lo:Int) (cs:List Int) (hG:G.length<=900000) (hj:G[j]?=some g) (hr:r=j+10) (P3:g.lo=dU+2*(a:Int)) (Ag:lo=dU+2*(b:Int)) (fC:a=0\/b=0)
  (Qn:a+g.cs.length<=N) (XJ:b+cs.length<=N) (hN:N=a+g.cs.length\/N=b+cs.length) (hw:0<a\/g.cs.length+a<b+cs.length) (XU:N<=1000000) (lN: -1000000<=dU/\dU<=1000000)
  (iA: ∀i,-1152921504606846976<=g.cs.getD i 0/\g.cs.getD i 0<=1152921504606846976) (rU: ∀i,-1152921504606846976<=cs.getD i 0/\cs.getD i 0<=1152921504606846976) {fr:Fr} {K:AV->Fr->Hp->Prop}
  (hK:K (.agg [I dU, .sl 1 1000010 0 N]) fr ([(1000010, .cells 3 (.ints (iB (dP a g.cs N) b cs cs.length))),(1000009, .cells 151 (.lst [I dU, .sl 1 1000010 0 N])),(1000008, .cells 151 (.lst [I lo,roI cs])),(1000007, .cells 151 (.lst [I dU, .sl 1 1000010 0 N]))]++H4 g lo cs r++rC sd sn G G)):
  fM Tryz.prog 145 [.agg [I g.lo, .sl 1 r 0 g.cs.length],tpA lo cs] fr (H4 g lo cs r++br sd sn G) K:=by
 have cO:j<G.length:=(List.getElem?_eq_some_iff.1 hj).1;have j9:max 1000001 (hnew (eX 0 G))=1000001:=by have:=s9 G 0;omega
 have n4:(1000004=r)=False:=eq_false (by omega);have n3:(1000003=r)=False:=eq_false (by omega);have n2:(1000002=r)=False:=eq_false (by omega);have n1:(2=r)=False:=eq_false (by omega);have n0:(1=r)=False:=eq_false (by omega);have n5:(1000000=r)=False:=eq_false (by omega);have m5:(1000005=r)=False:=eq_false (by omega);have m6:(1000006=r)=False:=eq_false (by omega)
 have m7:(1000007=r)=False:=eq_false (by omega);have m8:(1000008=r)=False:=eq_false (by omega);have m9:(1000009=r)=False:=eq_false (by omega);have mA:(1000010=r)=False:=eq_false (by omega);have gr:hget (eX 0 G) r=some (.cells 3 (.ints g.cs)):=by rw [hr];exact dE hj
 have b0:decide (lo<g.lo)=decide (0<a):=by
  rw [decide_eq_decide];omega
 have b1:decide (g.lo+2*(g.cs.length:Int)<lo+2*(cs.length:Int))=decide (g.cs.length+a<b+cs.length):=by
  rw [decide_eq_decide];omega
 have e1:(if lo<g.lo then lo else g.lo)=dU:=by split<;>omega
 have e2:(if g.lo+2*(g.cs.length:Int)<lo+2*(cs.length:Int) then lo+2*(cs.length:Int) else g.lo+2*(g.cs.length:Int))=dU+2*(N:Int):=by split<;>omega
 have e3:(dU+2*(N:Int)-dU).tdiv 2=N:=by rw [show dU+2*(N:Int)-dU=(N:Int)*2 by omega,Int.mul_tdiv_cancel _ (by decide)]
 have e4:(g.lo-dU).tdiv 2=a:=by rw [show g.lo-dU=(a:Int)*2 by omega,Int.mul_tdiv_cancel _ (by decide)]
 have e5:(lo-dU).tdiv 2=b:=by rw [show lo-dU=(b:Int)*2 by omega,Int.mul_tdiv_cancel _ (by decide)]
 have pl:=zn a g.cs N;have Ir:=y48 a g.cs N;have r0:(List.replicate N (0:Int)).length=N:=List.length_replicate;refine fM.intro [.cell 4 151] Tryz.func145 rfl rfl (by decide) (by simp [Tryz.ntmps145]) ?_;rw [Tryz.ntmps145];by_cases ha0:0<a
 case' pos=>
  have ba:decide (0<a)=true:=by simpa using ha0
  repeat' (first|omega|(try apply ag);simp only [go_sem,sevalprocAttr,j9,b0,ba,e1,e2,e3,e4,Int.toNat_natCast]|apply ah<;>(intro h_;(try simp only [h_]);revert h_)|apply ai|apply aj|apply ae|apply And.intro|with_reducible intro h_|trivial|simp only [go_sem,ak];omega)
 case' neg=>
  have ba:decide (0<a)=false:=by simpa using ha0
  have bb:decide (g.cs.length+a<b+cs.length)=true:=by rw [decide_eq_true_eq];omega
  repeat' (first|omega|(try apply ag);simp only [go_sem,sevalprocAttr,j9,b0,ba,b1,bb,e1,e2,e3,e4,Int.toNat_natCast]|apply ah<;>(intro h_;(try simp only [h_]);revert h_)|apply ai|apply aj|apply ae|apply And.intro|with_reducible intro h_|trivial|simp only [go_sem,ak];omega)
 all_goals
  refine an.cut ([(5,I dU),(7, .sl 1 1000010 0 N),(4, .ptr 1000009 0),(3, .ptr 1000008 0),(2, .ptr 1000007 0)]++lft fr) ((1000010, .cells 3 (.ints (dP a g.cs N)))::(1000009, .cells 151 (.lst [I 0, .nils]))::(1000008, .cells 151 (.lst [I lo,roI cs]))::(1000007, .cells 151 (.lst [I g.lo, .sl 1 r 0 g.cs.length]))::(1000006, .cells 151 (.lst [I g.lo, .sl 1 r 0 g.cs.length]))::(1000005, .cells 151 (.lst [I lo,roI cs]))::rC sd sn G G) ?_ ?_
  ·repeat' (first|omega|(first|apply ag|(refine an.aD (id:=5) (VF) (by decide+kernel) mixed ?_)|(refine an.intro (id:=5) Bt [[],[0],[0],[0,1,2],[0],[0],[],[0,1,2,3,4,5,6],[0,1,2,3,4,5,6],[]] (by decide+kernel) mixed ?_)|skip);simp only [go_sem,sevalprocAttr,e4,Int.toNat_natCast,n0,n1,n2,n3,n4,n5,m5,m6,m7,m8,m9,mA,gr,↓reduceIte,reduceCtorEq,Bt,VF]|apply ah<;>(intro h_;(try simp only [h_]);revert h_)|apply ai|apply aj|apply ae|apply And.intro|with_reducible intro h_|trivial|simp only [go_sem,ak];omega)
   all_goals
    refine fb.copy (t:=22) (e:=3) (id:=1000010) (rid:=r) (n:=N-a) (m:=g.cs.length) (a:=a) (l:=List.replicate N 0) (ls:=g.cs) rfl rfl (by simp only [go_sem,sevalprocAttr]) (by simp only [go_sem,sevalprocAttr]) rfl rfl rfl ?_ (by rw [r0];omega) rfl (by omega) ?_
    ·simp only [go_sem,sevalprocAttr,n0,n1,n2,n3,n4,n5,m5,m6,m7,m8,m9,mA,gr]
    rw [Ir];simp only [go_sem,sevalprocAttr];refine Wk.w6 (A:=[(5,I dU),(7, .sl 1 1000010 0 N),(4, .ptr 1000009 0),(3, .ptr 1000008 0),(2, .ptr 1000007 0)]) ?_ (fun t ht=>?_)
    ·simp only [go_sem,sevalprocAttr,List.forall_mem_cons]
    ·simp only [fget]
     repeat rw [if_neg (by omega)]
  repeat' (first|omega|(try apply ag);simp only [go_sem,sevalprocAttr,e5]|apply ah<;>(intro h_;(try simp only [h_]);revert h_)|apply ai|apply aj|apply ae|apply And.intro|with_reducible intro h_|trivial|simp only [go_sem,ak];omega)
  refine bV.intro (fun n fr' H=> ∃i:Nat,i<=cs.length/\n=cs.length-i/\fr'=[(73,I i),(72,I cs.length),(71,roI cs),(4, .ptr 1000009 0),(3, .ptr 1000008 0),(2, .ptr 1000007 0)]++lft fr/\
   H=(1000010, .cells 3 (.ints (iB (dP a g.cs N) b cs i)))::(1000009, .cells 151 (.lst [I 0, .nils]))::(1000008, .cells 151 (.lst [I lo,roI cs]))::(1000007, .cells 151 (.lst [I dU, .sl 1 1000010 0 N]))::(1000006, .cells 151 (.lst [I g.lo, .sl 1 r 0 g.cs.length]))::(1000005, .cells 151 (.lst [I lo,roI cs]))::rC sd sn G G) ?_ ?_
  ·refine ⟨_,_,_,?_,0,by omega,rfl,rfl,rfl⟩;rw [yP];refine Wk.w6 (A:=[(73,I ((0:Nat):Int)),(72,I cs.length),(71,roI cs),(4, .ptr 1000009 0),(3, .ptr 1000008 0),(2, .ptr 1000007 0)]) ?_ (fun t ht=>?_)
   ·simp only [go_sem,sevalprocAttr,List.forall_mem_cons]
   ·simp only [fget]
    repeat rw [if_neg (by omega)]
  rintro n fr' H ⟨i,hi,rfl,rfl,rfl⟩;by_cases fi:i<cs.length
  ·have bi:decide ((i:Int)<cs.length)=true:=by simp;omega
   have e6:((b:Int)+i).toNat=b+i:=by omega
   have st:=Sg (dP a g.cs N) b cs i (by omega);have al:=vO (dP a g.cs N) b cs i;have a1:=CQ (dP a g.cs N) b cs i (b+i) (by omega);rw [if_neg (by omega),Int.add_zero] at a1;have c2:=rU i;have c1: -1152921504606846976<=(dP a g.cs N).getD (b+i) 0/\(dP a g.cs N).getD (b+i) 0<=1152921504606846976:=by
    have:=iA (b+i-a)
    simp only [dP,List.getD_eq_getElem?_getD,List.getElem?_map,List.getElem?_range (show b+i<N by omega),Option.map_some,Option.getD_some] at this⊢
    split<;>omega
   rw [←a1] at c1;rw [pl] at al
   repeat' (first|omega|(try apply ag);simp only [go_sem,sevalprocAttr,bi,e5,e6,n0,n1,n2,n3,n4,n5,m5,m6,m7,m8,m9,mA,al,st]|apply ah<;>(intro h_;(try simp only [h_]);revert h_)|apply ai|apply aj|apply ae|apply And.intro|with_reducible intro h_|trivial|simp only [go_sem,ak];omega)
   refine ⟨_,_,_,?_,?_,i+1,by omega,rfl,rfl,rfl⟩
   ·omega
   ·refine Wk.w6 (A:=[(73,I ((i+1:Nat):Int)),(72,I cs.length),(71,roI cs),(4, .ptr 1000009 0),(3, .ptr 1000008 0),(2, .ptr 1000007 0)]) ?_ (fun t ht=>?_)
    ·simp only [go_sem,sevalprocAttr,List.forall_mem_cons]
    ·simp only [fget]
     repeat rw [if_neg (by omega)]
  ·obtain rfl:i=cs.length:=by omega
   have bi:decide ((cs.length:Int)<cs.length)=false:=by simp
   repeat' (first|omega|(try apply ag);simp only [go_sem,sevalprocAttr,bi]|apply ah<;>(intro h_;(try simp only [h_]);revert h_)|apply ai|apply aj|apply ae|apply And.intro|with_reducible intro h_|trivial|simp only [go_sem,ak];omega)
   all_goals exact hK
end Go.Proofs.YtphjphpmfflfpaaGreatDoor
namespace Go.Proofs.YtphjphpmfflfpaaGreatDoor
set_option linter.unusedVariables false
set_option linter.unusedSimpArgs false
section
variable {n W:Nat} {mt b0:Int->Int} {arc:Nat->Nat} {glue:Nat->Int} {hv:Nat->Int} (E:FV n W mt b0 arc glue hv)
include E
omit E in
theorem ju.le {b:Int->Int} {sn:List Bool} {c:Nat} {ex dn:Nat->Prop} (h:ju n W mt b0 arc glue hv b sn c ex dn):sn.count true<=W:=by
 rw [←h.sl];exact List.count_le_length
theorem ju.path {c x:Nat} {dn:Nat->Prop} (hx:x<W) (E3:glue x<0) (IC: ¬dn x): ∀(f:Nat) (b:Int->Int) (sn:List Bool) (u:Nat),W<sn.count true+2*f->u<W->ju n W mt b0 arc glue hv b sn c (fun v=>v=x\/v=arc u) dn->b (hv (arc u))=hv x->
  ∃ys e b' wa,lr arc glue u ys e/\e<W/\glue e<0/\ju n W mt b0 arc glue hv b' wa c (fun v=>v=x\/v=e) dn/\b' (hv e)=hv x/\wa=ys.foldl (cV glue) sn/\wa.count true=sn.count true+2*ys.length/\(∀y∈ys,y<W/\wa.getD y false=true/\wa.getD (glue y).toNat false=true)/\ ∀v,sn.getD v false=true->wa.getD v false=true
 |0,b,sn,u,hf,hu,h,hb=>by have:=h.le;omega
 |f+1,b,sn,u,hf,hu,h,hb=>by
  have hy:=E.nod.ar u hu;have Pe:sn.getD x false=false:=by
   cases hq:sn.getD x false with
   |false=>rfl
   |true=>have:=(h.seen x hx hq).1;omega
  by_cases hg:0<=glue (arc u)
  ·obtain ⟨zW,ze,zg,zy⟩:=E.gW hy hg;have ya:sn.getD (arc u) false=false:=by
    cases hq:sn.getD (arc u) false with
    |false=>rfl
    |true=>
     have h1:=(h.seen _ hy hq).2.2;rw [hb] at h1
     have:=E.inj _ _ hx zW h1
     rw [this,zg] at E3;omega
   have Ie:x≠(glue (arc u)).toNat:=fun e=>by rw [e,zg] at E3;omega
   obtain ⟨s1,s2,s3,s4⟩:=h.step E hx hy hb hg ya Ie Pe IC;have lH:sn.getD (glue (arc u)).toNat false=false:=by
    cases hz:sn.getD (glue (arc u)).toNat false with
    |false=>rfl
    |true=>
     have:=(h.seen _ zW hz).2.1
     rw [zg] at this;simp only [Int.toNat_natCast] at this;rw [this] at ya;cases ya
   have jN:=Lw (glue:=glue) (sn:=sn) (y:=arc u) (by rw [h.sl];exact hy) (by rw [h.sl];exact zW) zy ya lH;have hget:=fun j=>K7 (glue:=glue) (sn:=sn) (y:=arc u) (by rw [h.sl];exact hy) (by rw [h.sl];exact zW) j;obtain ⟨ys,e,b',wa,p1,p2,p3,p4,p5,p6,p7,p8,p9⟩:=ju.path hx E3 IC f _ _ (glue (arc u)).toNat (by omega) zW s1 s4
   refine ⟨arc u::ys,e,b',wa, .cons hg p1,p2,p3,p4,p5,by rw [List.foldl_cons];exact p6,by rw [p7,jN,List.length_cons];omega,fun y zJ=>?_,fun v fN=>p9 v (by rw [hget];split<;>first|rfl|exact fN)⟩;rcases List.mem_cons.1 zJ with rfl|zJ
   ·exact ⟨hy,p9 _ (by rw [hget,if_pos (.inl rfl)]),p9 _ (by rw [hget,if_pos (.inr rfl)])⟩
   ·exact p8 y zJ
  ·exact ⟨[],arc u,b,sn, .nil (by omega),hy,by omega,h,hb,rfl,by simp,(fun y zJ=>by cases zJ),fun v fN=>fN⟩
theorem lr.back {u e:Nat} {ys:List Nat} (h:lr arc glue u ys e):u<W-> ∃ws,ws.length=ys.length/\(∀w∈ws,∃y∈ys,w=(glue y).toNat)/\((glue u<0->lr arc glue e ws u)/\(0<=glue u-> ∀zs x,lr arc glue (glue u).toNat zs x->lr arc glue e (ws++u::zs) x)):=by
 induction h with
 | @nil u hn=>
   intro hu;have ha:=E.nod.aa u hu;refine ⟨[],rfl,(fun w hw=>by cases hw),fun Al=>?_,fun Al zs x hz=>?_⟩
   ·have:=lr.nil (arc:=arc) (glue:=glue) (u:=arc u) (by rw [ha];exact Al)
    rw [ha] at this;exact this
   ·have:=lr.cons (arc:=arc) (glue:=glue) (u:=arc u) (ys:=zs) (e:=x) (by rw [ha];exact Al) (by rw [ha];exact hz)
    rw [ha] at this;exact this
 | @cons u e ys hg k ih=>
   intro hu;have hy:=E.nod.ar u hu;obtain ⟨zW,ze,zg,zy⟩:=E.gW hy hg;have ha:=E.nod.aa u hu;obtain ⟨ws,h1,h2,h3,h4⟩:=ih zW;have tV:0<=glue (glue (arc u)).toNat:=by rw [zg];omega
   have tU:(glue (glue (arc u)).toNat).toNat=arc u:=by rw [zg];simp
   refine ⟨ws++[(glue (arc u)).toNat],by simp [h1],fun w hw=>?_,fun Al=>?_,fun Al zs x hz=>?_⟩
   ·rcases List.mem_append.1 hw with hw|hw
    ·obtain ⟨y,q1,q2⟩:=h2 w hw;exact ⟨y,List.mem_cons_of_mem _ q1,q2⟩
    ·simp only [List.mem_singleton] at hw;exact ⟨arc u,List.mem_cons_self ..,hw⟩
   ·refine h4 tV [] u ?_;rw [tU]
    have:=lr.nil (arc:=arc) (glue:=glue) (u:=arc u) (by rw [ha];exact Al)
    rw [ha] at this;exact this
   ·rw [List.append_assoc];refine h4 tV (u::zs) x ?_;rw [tU]
    have:=lr.cons (arc:=arc) (glue:=glue) (u:=arc u) (ys:=zs) (e:=x) (by rw [ha];exact Al) (by rw [ha];exact hz)
    rw [ha] at this;exact this
theorem Ry: ∀k,k<=W-> ∃b dn,ju n W mt b0 arc glue hv b (endN W arc glue k) 0 (fun _=>False) dn/\ ∀x,x<k->glue x<0->dn x
 |0,_=>⟨b0,fun _=>False,⟨E.inv,fun _ _ _=>rfl,by simp [endN],fun x hx h=>by simp [endN,List.getD_eq_getElem?_getD,List.getElem?_replicate] at h;split at h<;>simp_all,fun x hx _ _ _=>E.ba x hx,fun u h=>h.elim,by simp [endN,List.count_replicate]⟩,fun x h=>by omega⟩
 |k+1,hk=>by
  obtain ⟨b,dn,h,hd⟩:=Ry k (by omega);by_cases hg:0<=glue k
  ·have:endN W arc glue (k+1)=endN W arc glue k:=by simp only [endN];rw [if_pos hg]
   rw [this];exact ⟨b,dn,h,fun x hx nT=>by
    by_cases e:x=k
    ·subst e;omega
    ·exact hd x (by omega) nT⟩
  ·have e1:endN W arc glue (k+1)=(pthN arc glue (W+1) (endN W arc glue k) (arc k)).1:=by simp only [endN];rw [if_neg hg]
   rw [e1];by_cases ka:dn k
   ·obtain ⟨_,_,ys,e,g3,g4,_,_,g7⟩:=h.dne k ka;rw [BI g3 (W+1) _ (by omega),Te ys _ g7];exact ⟨b,dn,h,fun x hx nT=>by
     by_cases e:x=k
     ·subst e;exact ka
     ·exact hd x (by omega) nT⟩
   ·have wI:(endN W arc glue k).getD k false=false:=by
     cases hq:(endN W arc glue k).getD k false with
     |false=>rfl
     |true=>have:=(h.seen k (by omega) hq).1;omega
    have pt:=h.org k (by omega) wI (fun h=>h) ka;have Qh:b (hv (arc k))=hv k:=by rw [←pt,h.inv.jj _ (E.cn k (by omega))]
    have bH:ju n W mt b0 arc glue hv b (endN W arc glue k) 0 (fun v=>v=k\/v=arc k) dn:=⟨h.inv,h.off,h.sl,h.seen,fun x hx hs _ yw=>h.org x hx hs (fun h=>h) yw,h.dne,h.bt⟩;obtain ⟨ys,e,b',wa,p1,p2,p3,p4,p5,p6,p7,p8,p9⟩:=ju.path E (by omega) (by omega) ka (W+1) b _ k (by omega) (by omega) bH Qh;have hle:=p4.le;have yc:ys.length<=W:=by omega
    rw [BI p1 (W+1) _ (by omega),←p6];obtain ⟨ws,w1,w2,w3,_⟩:=lr.back E p1 (by omega);have hbe:b' (hv k)=hv e:=by rw [←p5,p4.inv.jj _ (E.cn e p2)]
    refine ⟨b',fun v=>dn v\/v=k\/v=e,⟨p4.inv,p4.off,p4.sl,p4.seen,fun x hx hs _ yw=>p4.org x hx hs (fun g=>yw (.inr g)) (fun g=>yw (.inl g)),fun u hu=>?_,p4.bt⟩,fun x hx nT=>?_⟩
    ·rcases hu with hu|rfl|rfl
     ·obtain ⟨q1,q2,YY,e2,q3,q4,q5,q6,q7⟩:=p4.dne u hu;exact ⟨q1,q2,YY,e2,q3,q4, .inl q5,q6,q7⟩
     ·exact ⟨by omega,by omega,ys,e,p1,yc, .inr (.inr rfl),hbe,fun y hy=>(p8 y hy).2⟩
     ·refine ⟨p2,p3,ws,k,w3 (by omega),by omega, .inr (.inl rfl),p5,fun w hw=>?_⟩;obtain ⟨y,q1,q2⟩:=w2 w hw;obtain ⟨r1,r2,r3⟩:=p8 y q1;have hgy:=(p4.seen y r1 r2).1;obtain ⟨_,_,zg,_⟩:=E.gW r1 hgy;rw [q2];refine ⟨r3,?_⟩;rw [zg];simpa using r2
    ·by_cases e':x=k
     ·exact .inr (.inl e')
     ·exact .inl (hd x (by omega) nT)
end
section
variable {n W:Nat} {mt b0:Int->Int} {arc:Nat->Nat} {glue:Nat->Int} {hv:Nat->Int} (E:FV n W mt b0 arc glue hv)
include E
theorem ju.aH {b:Int->Int} {sn:List Bool} {c:Nat} {ex dn:Nat->Prop} (h:ju n W mt b0 arc glue hv b sn c ex dn) {z:Nat} (hz:z<W) (hg:0<=glue z) (hs:sn.getD z false=false):sn.getD (glue z).toNat false=false:=by
 obtain ⟨zW,ze,zg,zy⟩:=E.gW hz hg;cases hq:sn.getD (glue z).toNat false with
 |false=>rfl
 |true=>
  have:=(h.seen _ zW hq).2.1
  rw [zg] at this;simp only [Int.toNat_natCast] at this;rw [this] at hs;cases hs
theorem ju.WK {b:Int->Int} {sn:List Bool} {c:Nat} {ex dn:Nat->Prop} (h:ju n W mt b0 arc glue hv b sn c ex dn) (vA: ∀x,x<W->glue x<0->dn x) {g v:Nat} (hg:g<W) (fN:v<W) (hgg:0<=glue g) (E4:sn.getD g false=false) (hb:b (hv v)=hv g):0<=glue v/\sn.getD v false=false:=by
 have IB:0<=glue v:=by
  rcases Int.lt_or_le (glue v) 0 with h1|h1
  ·obtain ⟨_,_,ys,e,_,_,q5,q6,_⟩:=h.dne v (vA v fN h1);rw [hb] at q6
   have:=E.inj _ _ hg (h.dne e q5).1 q6
   have:=(h.dne e q5).2.1
   subst_vars
   omega
  ·exact h1
 refine ⟨IB,?_⟩;cases hq:sn.getD v false with
 |false=>rfl
 |true=>
  obtain ⟨s1,s2,s3⟩:=h.seen v fN hq;rw [hb] at s3
  have:=E.inj _ _ hg (E.gW fN IB).1 s3
  rw [←this,E4] at s2;cases s2
theorem ju.Yb {c z0 P:Nat} {dn:Nat->Prop} (vA: ∀x,x<W->glue x<0->dn x) (je:z0<W) (hP:P<W) (XP:arc P=z0): ∀(f:Nat) (b:Int->Int) (sn:List Bool) (z:Nat),W<sn.count true+2*f->z<W->ju n W mt b0 arc glue hv b sn c (fun v=>v=P\/v=z) dn->b (hv z)=hv P->b (hv P)=hv z->0<=glue z->sn.getD z false=false->0<=glue P->sn.getD P false=false->(z=z0\/sn.getD z0 false=true)->
  ∃zs b',vG arc glue sn z zs/\ju n W mt b0 arc glue hv b' (zs.foldl (cV glue) sn) (c+1) (fun _=>False) dn/\(zs.foldl (cV glue) sn).count true=sn.count true+2*zs.length/\(∀v,sn.getD v false=true->(zs.foldl (cV glue) sn).getD v false=true)/\(zs.foldl (cV glue) sn).getD z false=true
 |0,b,sn,z,hf,hz,h,_,_,_,_,_,_,_=>by have:=h.le;omega
 |f+1,b,sn,z,hf,hz,h,gZ,mv,tV,lH,Xy,hPs,hz00=>by
  obtain ⟨gW,ge,gg,gz⟩:=E.gW hz tV;have E4:=h.aH E hz tV lH;have zl:z<sn.length:=by rw [h.sl];exact hz
  have gl:(glue z).toNat<sn.length:=by rw [h.sl];exact gW
  have hget:=fun j=>K7 (glue:=glue) zl gl j;have jN:=Lw (glue:=glue) zl gl gz lH E4;have hzP:z≠P:=fun e=>h.inv.jf _ (E.cn z hz) (by rw [gZ,e]);by_cases bO:(glue z).toNat=P
  ·refine ⟨[z],b, .step lH tV ?_,⟨h.inv,h.off,by simp only [List.foldl_cons,List.foldl_nil,Hj];exact h.sl,fun x hx hs=>?_,fun x hx hs _ hd=>?_,fun u hd=>?_,?_⟩,?_,fun v Ex=>?_,?_⟩
   ·rw [bO,XP];refine .stop ?_;rw [hget];rcases hz00 with rfl|h0
    ·rw [if_pos (.inl rfl)]
    ·split<;>first|rfl|exact h0
   ·simp only [List.foldl_cons,List.foldl_nil] at hs⊢;rw [hget] at hs;by_cases e1:x=z
    ·rw [e1];exact ⟨tV,by rw [hget,if_pos (.inr rfl)],by rw [gZ,bO]⟩
    ·by_cases e2:x=(glue z).toNat
     ·rw [e2,gg];refine ⟨by omega,by rw [hget,if_pos (.inl (by omega))],?_⟩;rw [bO,mv];simp
     ·rw [if_neg (by rintro (g|g)<;>omega)] at hs;obtain ⟨s1,s2,s3⟩:=h.seen x hx hs;exact ⟨s1,by rw [hget];split<;>first|rfl|exact s2,s3⟩
   ·simp only [List.foldl_cons,List.foldl_nil] at hs;rw [hget] at hs;by_cases e1:x=z\/x=(glue z).toNat
    ·rw [if_pos e1] at hs;cases hs
    ·rw [if_neg e1] at hs;exact h.org x hx hs (by rintro (e|e);exact e1 (.inr (e.trans bO.symm));exact e1 (.inl e)) hd
   ·obtain ⟨q1,q2,ys,e,q3,q4,q5,q6,q7⟩:=h.dne u hd;refine ⟨q1,q2,ys,e,q3,q4,q5,q6,fun y hy=>?_⟩;simp only [List.foldl_cons,List.foldl_nil];exact ⟨by rw [hget];split<;>first|rfl|exact (q7 y hy).1,by rw [hget];split<;>first|rfl|exact (q7 y hy).2⟩
   ·simp only [List.foldl_cons,List.foldl_nil]
    have:=h.bt
    omega
   ·simp only [List.foldl_cons,List.foldl_nil,List.length_cons,List.length_nil];omega
   ·simp only [List.foldl_cons,List.foldl_nil];rw [hget];split<;>first|rfl|exact Ex
   ·simp only [List.foldl_cons,List.foldl_nil];rw [hget,if_pos (.inl rfl)]
  ·have hPd: ¬dn P:=fun hd=>by have:=(h.dne P hd).2.1;omega
   obtain ⟨s1,s2,s3,s4⟩:=h.step E hP hz gZ tV lH (fun e=>bO e.symm) hPs hPd;have aW:=E.nod.ar _ gW;have Ft:(cV glue sn z).getD P false=false:=by rw [hget,if_neg (by rintro (g|g)<;>omega)];exact hPs
   obtain ⟨t1,t2⟩:=s1.WK E vA hP aW Xy Ft s4;obtain ⟨zs,b',p1,p2,p3,p4,p5⟩:=ju.Yb vA je hP XP f _ _ (arc (glue z).toNat) (by omega) aW s1 s4 s2 t1 t2 Xy Ft (.inr (by
    rcases hz00 with rfl|h0
    ·rw [hget,if_pos (.inl rfl)]
    ·rw [hget];split<;>first|rfl|exact h0))
   refine ⟨z::zs,b', .step lH tV p1,by rw [List.foldl_cons];exact p2,by rw [List.foldl_cons,p3,jN,List.length_cons];omega,fun v Ex=>?_,?_⟩
   ·rw [List.foldl_cons];exact p4 v (by rw [hget];split<;>first|rfl|exact Ex)
   ·rw [List.foldl_cons];exact p4 z (by rw [hget,if_pos (.inl rfl)])
theorem ju.round {b:Int->Int} {sn:List Bool} {c z0:Nat} {dn:Nat->Prop} (h:ju n W mt b0 arc glue hv b sn c (fun _=>False) dn) (vA: ∀x,x<W->glue x<0->dn x) (je:z0<W) (hg:0<=glue z0) (hs:sn.getD z0 false=false):
  ∃zs b',vG arc glue sn z0 zs/\zs.length<=W/\ju n W mt b0 arc glue hv b' (zs.foldl (cV glue) sn) (c+1) (fun _=>False) dn/\(∀v,sn.getD v false=true->(zs.foldl (cV glue) sn).getD v false=true)/\(zs.foldl (cV glue) sn).getD z0 false=true:=by
 have IF: ¬dn z0:=fun hd=>by have:=(h.dne z0 hd).2.1;omega
 have hb:=h.org z0 je hs (fun h=>h) IF;have aW:=E.nod.ar z0 je;have mv:b (hv (arc z0))=hv z0:=by rw [←hb,h.inv.jj _ (E.cn z0 je)]
 obtain ⟨t1,t2⟩:=h.WK E vA je aW hg hs mv;have bH:ju n W mt b0 arc glue hv b sn c (fun v=>v=arc z0\/v=z0) dn:=⟨h.inv,h.off,h.sl,h.seen,fun x hx hs _ yw=>h.org x hx hs (fun h=>h) yw,h.dne,h.bt⟩;obtain ⟨zs,b',p1,p2,p3,p4,p5⟩:=ju.Yb E vA je aW (E.nod.aa z0 je) (W+1) b sn z0 (by omega) je bH hb mv hg hs t1 t2 (.inl rfl)
 have:=p2.le
 exact ⟨zs,b',p1,by omega,p2,p4,p5⟩
theorem Kt {b1:Int->Int} {dn:Nat->Prop} (h:ju n W mt b0 arc glue hv b1 (endN W arc glue W) 0 (fun _=>False) dn) (vA: ∀x,x<W->glue x<0->dn x): ∀k,k<=W-> ∃b,ju n W mt b0 arc glue hv b (bU W arc glue (endN W arc glue W) k).1 (bU W arc glue (endN W arc glue W) k).2 (fun _=>False) dn/\ ∀x,x<k->0<=glue x->(bU W arc glue (endN W arc glue W) k).1.getD x false=true
 |0,_=>⟨b1,h,fun x hx=>by omega⟩
 |k+1,hk=>by
  obtain ⟨b,h1,h2⟩:=Kt h vA k (by omega);have bH:bU W arc glue (endN W arc glue W) (k+1)=if glue k<0\/(bU W arc glue (endN W arc glue W) k).1.getD k false=true then bU W arc glue (endN W arc glue W) k else (nj arc glue (W+1) (bU W arc glue (endN W arc glue W) k).1 k,(bU W arc glue (endN W arc glue W) k).2+1):=rfl
  by_cases hc:glue k<0\/(bU W arc glue (endN W arc glue W) k).1.getD k false=true
  ·rw [bH,if_pos hc];refine ⟨b,h1,fun x hx hg=>?_⟩;by_cases e:x=k
   ·subst e;rcases hc with hc|hc
    ·omega
    ·exact hc
   ·exact h2 x (by omega) hg
  ·rw [bH,if_neg hc];have hg:0<=glue k:=by
    rcases Int.lt_or_le (glue k) 0 with g|g
    ·exact absurd (.inl g) hc
    ·exact g
   have hs:(bU W arc glue (endN W arc glue W) k).1.getD k false=false:=by
    cases hq:(bU W arc glue (endN W arc glue W) k).1.getD k false with
    |false=>rfl
    |true=>exact absurd (.inr hq) hc
   obtain ⟨zs,b',p1,p2,p3,p4,p5⟩:=h1.round E vA (by omega) hg hs;rw [SO p1 (W+1) (by omega)];refine ⟨b',p3,fun x hx E3=>?_⟩;by_cases e:x=k
   ·subst e;exact p5
   ·exact p4 x (h2 x (by omega) E3)
theorem KU: ∃b,Inv2 n mt b/\(∀h,au n h->(∀x,x<W->h≠hv x)->b h=b0 h)/\(∀x,x<W->0<=glue x->b (hv x)=mt (hv x))/\
  (∀x,x<W->glue x<0-> ∃ys e,lr arc glue x ys e/\ys.length<=W/\e<W/\glue e<0/\b (hv x)=hv e)/\
  (∀k,k<W->0<=glue k->(bU W arc glue (endN W arc glue W) k).1.getD k false=false-> ∃zs,vG arc glue (bU W arc glue (endN W arc glue W) k).1 k zs/\zs.length<=W)/\
  ∃g:Nat,2*ot n mt b+2*(bU W arc glue (endN W arc glue W) W).2=2*ot n mt b0+g/\g=(bU W arc glue (endN W arc glue W) W).1.count true/\ ∀x,x<W->((bU W arc glue (endN W arc glue W) W).1.getD x false=true↔0<=glue x):=by
 obtain ⟨b1,dn,h,hd⟩:=Ry E W (Nat.le_refl _);obtain ⟨b,h1,h2⟩:=Kt E h hd W (Nat.le_refl _);refine ⟨b,h1.inv,h1.off,fun x hx hg=>?_,fun x hx hg=>?_,fun k hk hg hs=>?_,_,h1.bt,rfl,fun x hx=>⟨fun hs=>(h1.seen x hx hs).1,fun hg=>h2 x hx hg⟩⟩
 ·rw [(h1.seen x hx (h2 x hx hg)).2.2,E.mtg x hx hg]
 ·obtain ⟨q1,q2,ys,e,q3,q4,q5,q6,q7⟩:=h1.dne x (hd x hx hg);exact ⟨ys,e,q3,q4,(h1.dne e q5).1,(h1.dne e q5).2.1,q6⟩
 ·obtain ⟨b',k1,_⟩:=Kt E h hd k (by omega);obtain ⟨zs,_,p1,p2,_⟩:=k1.round E hd hk hg hs;exact ⟨zs,p1,p2⟩
end
end Go.Proofs.YtphjphpmfflfpaaGreatDoor
