/- Plain: the coefficients of a row of integers; the states of a stage, and their sum. -/
import Derived.Test.YtmdjdekgakidhaaDoorZg
import Derived.Test.YtmdjdekgakidhaaDoorTd1
namespace Go.Proofs.YtmdjdekgakidhaaDoor
set_option linter.unusedVariables false
set_option linter.unusedSimpArgs false
set_option linter.unusedSectionVars false
def pfE (lo:Int) (cs:List Int) (e:Int):Int:=if lo<=e/\(e-lo)% 2=0 then cs.getD ((e-lo)/2).toNat 0 else 0
theorem yde (lo:Int) (cs:List Int) (i:Nat):pfE lo cs (lo+2*(i:Int))=cs.getD i 0:=by
 unfold pfE
 rw [if_pos (by omega),show ((lo+2*(i:Int)-lo)/2).toNat=i by omega]
theorem yco {lo:Int} {cs:List Int} {e:Int} (h:e<lo):pfE lo cs e=0:=by unfold pfE;rw [if_neg (by omega)]
theorem ydu {lo:Int} {cs:List Int} {e:Int} (h:(e-lo)% 2≠0):pfE lo cs e=0:=by unfold pfE;rw [if_neg (by omega)]
theorem ygk (lo:Int) (cs:List Int) (a e:Int):pfE (lo+a) cs e=pfE lo cs (e-a):=by
 unfold pfE
 rw [show e-(lo+a)=e-a-lo by omega]
 by_cases h:lo<=e-a/\(e-a-lo)% 2=0
 ·rw [if_pos h,if_pos ⟨by omega,h.2⟩]
 ·rw [if_neg h,if_neg fun g=>h ⟨by omega,g.2⟩]
theorem ybf {cs:List Int} {i:Nat} (h:cs.length<=i):cs.getD i 0=0:=by simp [List.getD_eq_getElem?_getD,h]
theorem yiv (lo e:Int):(e-lo)% 2≠0\/e<lo\/ ∃i:Nat,e=lo+2*(i:Int):=by
 by_cases h1:(e-lo)% 2=0
 ·by_cases h2:e<lo
  ·exact .inr (.inl h2)
  ·exact .inr (.inr ⟨((e-lo)/2).toNat,by omega⟩)
 ·exact .inl h1
theorem y3e (lo:Int) (cs:List Int) (e:Int):pfE (lo-2) (tmsK cs cs.length) e=dml (pfE lo cs) e:=by
 unfold dml
 rcases yiv (lo-2) e with h|h|⟨i,rfl⟩
 ·rw [ydu h,ydu (by omega),ydu (by omega)];rfl
 ·rw [yco h,yco (by omega),yco (by omega)];rfl
 ·rw [yde,show lo-2+2*(i:Int)+2=lo+2*(i:Int) by omega,yde]
  have h3:pfE lo cs (lo-2+2*(i:Int)-2)=if 2<=i then cs.getD (i-2) 0 else 0:=by
   split
   ·rw [show lo-2+2*(i:Int)-2=lo+2*((i-2:Nat):Int) by omega,yde]
   ·exact yco (by omega)
  rw [h3]
  by_cases hi:i<cs.length+2
  ·rw [yfi _ _ _ hi]
   by_cases h4:i<cs.length
   ·rw [if_pos h4]
    by_cases h5:2<=i
    ·rw [if_pos ⟨h5,by omega⟩,if_pos h5]
    ·rw [if_neg (by omega),if_neg h5]
   ·rw [if_neg h4,ybf (cs:=cs) (i:=i) (by omega)]
    by_cases h5:2<=i/\i-2<cs.length
    ·rw [if_pos h5,if_pos h5.1];rfl
    ·rw [if_neg h5]
     by_cases h6:2<=i
     ·rw [if_pos h6,ybf (by omega)];rfl
     ·rw [if_neg h6];rfl
  ·rw [ybf (by rw [ydh];omega),ybf (cs:=cs) (i:=i) (by omega),if_pos (by omega),ybf (by omega)];rfl
theorem yk3 (a:Nat) (p:List Int) {N i:Nat} (h:i<N):(padL a p N).getD i 0=if a<=i/\i-a<p.length then p.getD (i-a) 0 else 0:=by simp [padL,List.getD_eq_getElem?_getD,h]
theorem y3f (lo:Int) (a N:Nat) (p:List Int) (h:a+p.length<=N) (e:Int):pfE lo (padL a p N) e=pfE (lo+2*(a:Int)) p e:=by
 rcases yiv lo e with h1|h1|⟨i,rfl⟩
 ·rw [ydu h1,ydu (by omega)]
 ·rw [yco h1,yco (by omega)]
 ·rw [yde]
  by_cases h2:a<=i
  ·rw [show lo+2*(i:Int)=lo+2*(a:Int)+2*((i-a:Nat):Int) by omega,yde]
   by_cases h3:i<N
   ·rw [yk3 _ _ h3]
    by_cases h4:i-a<p.length
    ·rw [if_pos ⟨h2,h4⟩]
    ·rw [if_neg fun g=>h4 g.2,ybf (by omega)]
   ·rw [ybf (by rw [ydj];omega),ybf (by omega)]
  ·rw [yco (e:=lo+2*(i:Int)) (by omega),yk3 _ _ (by omega),if_neg fun g=>h2 g.1]
theorem y5c (lo:Int) (r:List Int) (b:Nat) (q:List Int) (h:b+q.length<=r.length) (e:Int):pfE lo (adK r b q q.length) e=pfE lo r e+pfE (lo+2*(b:Int)) q e:=by
 rcases yiv lo e with h1|h1|⟨i,rfl⟩
 ·rw [ydu h1,ydu h1,ydu (by omega)];rfl
 ·rw [yco h1,yco h1,yco (by omega)];rfl
 ·rw [yde,yde]
  by_cases h3:i<r.length
  ·rw [yit _ _ _ _ _ h3]
   by_cases h2:b<=i
   ·rw [show lo+2*(i:Int)=lo+2*(b:Int)+2*((i-b:Nat):Int) by omega,yde]
    by_cases h4:i-b<q.length
    ·rw [if_pos ⟨h2,h4⟩]
    ·rw [if_neg fun g=>h4 g.2,ybf (cs:=q) (by omega)]
   ·rw [yco (e:=lo+2*(i:Int)) (by omega),if_neg fun g=>h2 g.1]
  ·rw [ybf (by rw [yc9];omega),ybf (cs:=r) (by omega)]
   by_cases h2:b<=i
   ·rw [show lo+2*(i:Int)=lo+2*(b:Int)+2*((i-b:Nat):Int) by omega,yde,ybf (by omega)];rfl
   ·rw [yco (e:=lo+2*(i:Int)) (by omega)];rfl
def mxN:List Int->Nat
 |[]=>0
 |c::l=>max c.natAbs (mxN l)
theorem yg6 {B:Nat}: ∀{l:List Int},mxN l<=B↔ ∀i,(l.getD i 0).natAbs<=B
 |[]=>by simp [mxN]
 |c::l=>by
  simp only [mxN,Nat.max_le,yg6 (l:=l)]
  constructor
  ·rintro ⟨h1,h2⟩ i
   match i with
   |0=>simpa using h1
   |i+1=>simpa using h2 i
  ·exact fun h=>⟨by simpa using h 0,fun i=>by simpa using h (i+1)⟩
theorem ye0 (l:List Int) (i:Nat):(l.getD i 0).natAbs<=mxN l:=yg6.1 (Nat.le_refl _) i
theorem y3g (cs:List Int) (k:Nat):mxN (tmsK cs k)<=2*mxN cs:=yg6.2 fun i=>by
 by_cases h:i<cs.length+2
 ·rw [yfi _ _ _ h]
  have h1:=ye0 cs i
  have h2:=ye0 cs (i-2)
  split<;>split<;>omega
 ·rw [ybf (by rw [ydh];omega)];simp
theorem y5d (r:List Int) (b:Nat) (q:List Int) (k:Nat):mxN (adK r b q k)<=mxN r+mxN q:=yg6.2 fun i=>by
 by_cases h:i<r.length
 ·rw [yit _ _ _ _ _ h]
  have h1:=ye0 r i
  have h2:=ye0 q (i-b)
  split<;>omega
 ·rw [ybf (by rw [yc9];omega)];simp
theorem y3h (a:Nat) (p:List Int) (N:Nat):mxN (padL a p N)<=mxN p:=yg6.2 fun i=>by
 by_cases h:i<N
 ·rw [yk3 _ _ h]
  have h2:=ye0 p (i-a)
  split
  ·exact h2
  ·simp
 ·rw [ybf (by rw [ydj];omega)];simp
def tsL:Nat->List Int->List Int
 |0,cs=>cs
 |j+1,cs=>tmsK (tsL j cs) (tsL j cs).length
theorem ybg (cs:List Int): ∀j,(tsL j cs).length=cs.length+2*j
 |0=>rfl
 |j+1=>by simp only [tsL,ydh,ybg cs j];omega
theorem ye1 (cs:List Int): ∀j,mxN (tsL j cs)<=2^j*mxN cs
 |0=>by simp [tsL]
 |j+1=>by
  have h1:=y3g (tsL j cs) (tsL j cs).length
  have h2:=ye1 cs j
  simp only [tsL]
  rw [Nat.pow_succ,Nat.mul_right_comm];omega
theorem yiw (lo:Int) (cs:List Int): ∀(j:Nat) (e:Int),pfE (lo-2*(j:Int)) (tsL j cs) e=dmn j (pfE lo cs) e
 |0,e=>by simp [tsL,dmn]
 |j+1,e=>by
  rw [show lo-2*((j+1:Nat):Int)=lo-2*(j:Int)-2 by omega]
  simp only [tsL,dmn]
  rw [y3e]
  exact ydt (yiw lo cs j) e
def plS (g:PE) (lo:Int) (cs:List Int):PE:=
 ⟨g.key,min g.lo lo,adK (padL ((g.lo-min g.lo lo)/2).toNat g.cs (max (((g.lo-min g.lo lo)/2).toNat+g.cs.length) (((lo-min g.lo lo)/2).toNat+cs.length))) ((lo-min g.lo lo)/2).toNat cs cs.length⟩
theorem yqn {g:PE} {lo:Int} {cs:List Int} (a b N:Nat) (lo':Int) (hga:g.lo=lo'+2*(a:Int)) (hlb:lo=lo'+2*(b:Int)) (hab:a=0\/b=0) (hN:N=max (a+g.cs.length) (b+cs.length)):plS g lo cs=⟨g.key,lo',adK (padL a g.cs N) b cs cs.length⟩:=by
 have h1:min g.lo lo=lo':=by omega
 unfold plS
 rw [h1,show ((g.lo-lo')/2).toNat=a by omega,show ((lo-lo')/2).toNat=b by omega,←hN]
theorem yqo {g:PE} {lo:Int} {cs:List Int} (h:(g.lo-lo)% 2=0): ∃(a b:Nat) (lo':Int),g.lo=lo'+2*(a:Int)/\lo=lo'+2*(b:Int)/\(a=0\/b=0):=by
 rcases Int.lt_or_le g.lo lo with h1|h1
 ·exact ⟨0,((lo-g.lo)/2).toNat,g.lo,by omega,by omega, .inl rfl⟩
 ·exact ⟨((g.lo-lo)/2).toNat,0,lo,by omega,by omega, .inr rfl⟩
theorem ywo (p:List Int):padL 0 p p.length=p:=by
 refine List.ext_getElem? fun i=>?_
 by_cases h:i<p.length<;>simp [padL,h]
theorem ywp {g:PE} {lo:Int} {cs:List Int} (h:(g.lo-lo)% 2=0) (e:Int):pfE (plS g lo cs).lo (plS g lo cs).cs e=pfE g.lo g.cs e+pfE lo cs e:=by
 obtain ⟨a,b,lo',h1,h2,h3⟩:=yqo (cs:=cs) h
 rw [yqn a b _ lo' h1 h2 h3 rfl]
 dsimp only
 rw [y5c _ _ _ _ (by rw [ydj];omega),y3f _ _ _ _ (by omega),←h1,←h2]
theorem yqp (g:PE) (lo:Int) (cs:List Int):mxN (plS g lo cs).cs<=mxN g.cs+mxN cs:=by
 unfold plS
 dsimp only
 exact Nat.le_trans (y5d _ _ _ _) (Nat.add_le_add_right (y3h _ _ _) _)
theorem ywq {g:PE} {lo:Int} {cs:List Int} (h:(g.lo-lo)% 2=0) {R:Int} (h1: -R<=g.lo/\g.lo+2*(g.cs.length:Int)<=R) (h2: -R<=lo/\lo+2*(cs.length:Int)<=R): -R<=(plS g lo cs).lo/\(plS g lo cs).lo+2*((plS g lo cs).cs.length:Int)<=R/\((plS g lo cs).lo-lo)% 2=0:=by
 obtain ⟨a,b,lo',q1,q2,q3⟩:=yqo (cs:=cs) h
 rw [yqn a b _ lo' q1 q2 q3 rfl]
 dsimp only
 rw [yc9,ydj]
 omega
def updE:List PE->ByteArray->Int->List Int->List PE
 |[],s,lo,cs=>[⟨s,lo,cs⟩]
 |g::G,s,lo,cs=>if g.key=s then plS g lo cs::G else g::updE G s lo cs
theorem yn2: ∀(G:List PE) {s:ByteArray} {lo:Int} {cs:List Int},(∀g∈G,g.key≠s)->updE G s lo cs=G++[⟨s,lo,cs⟩]
 |[],_,_,_,_=>rfl
 |g::G,s,lo,cs,h=>by
  simp only [updE,List.cons_append]
  rw [if_neg (h g (List.mem_cons_self ..)),yn2 G fun g hg=>h g (List.mem_cons_of_mem _ hg)]
theorem yn3: ∀(G:List PE) {j:Nat} {g:PE} {lo:Int} {cs:List Int},ybd G->G[j]?=some g->updE G g.key lo cs=G.set j (plS g lo cs)
 |[],_,_,_,_,_,h=>by simp at h
 |a::G,0,g,lo,cs,hk,h=>by
  simp only [List.getElem?_cons_zero,Option.some.injEq] at h
  subst h
  simp only [updE,if_true,List.set_cons_zero]
 |a::G,j+1,g,lo,cs,hk,h=>by
  simp only [List.getElem?_cons_succ] at h
  unfold ybd at hk
  rw [List.map_cons,List.nodup_cons] at hk
  have hne:a.key≠g.key:=fun e=>hk.1 (e▸List.mem_map.2 ⟨g,List.mem_of_getElem? h,rfl⟩)
  simp only [updE,if_neg hne,List.set_cons_succ]
  rw [yn3 G hk.2 h]
theorem yix: ∀(G:List PE) (s:ByteArray) (lo:Int) (cs:List Int),(updE G s lo cs).map (·.key)=G.map (·.key)\/((∀g∈G,g.key≠s)/\(updE G s lo cs).map (·.key)=G.map (·.key)++[s])
 |[],_,_,_=> .inr ⟨by simp,rfl⟩
 |g::G,s,lo,cs=>by
  simp only [updE]
  by_cases h:g.key=s
  ·left;rw [if_pos h];rfl
  ·rw [if_neg h]
   rcases yix G s lo cs with h1|⟨h1,h2⟩
   ·left;rw [List.map_cons,h1];rfl
   ·right
    refine ⟨fun a ha=>?_,by rw [List.map_cons,h2];rfl⟩
    rcases List.mem_cons.1 ha with rfl|ha
    ·exact h
    ·exact h1 a ha
theorem y3i {G:List PE} {s:ByteArray} {lo:Int} {cs:List Int} (h:ybd G):ybd (updE G s lo cs):=by
 unfold ybd at*
 rcases yix G s lo cs with h1|⟨h1,h2⟩
 ·rw [h1];exact h
 ·rw [h2,List.nodup_append]
  refine ⟨h,by simp,fun x hx y hy e=>?_⟩
  obtain ⟨g,hg,rfl⟩:=List.mem_map.1 hx
  simp only [List.mem_cons,List.not_mem_nil,or_false] at hy
  exact h1 g hg (e.trans hy)
theorem yk4 (G:List PE) (s:ByteArray) (lo:Int) (cs:List Int):(updE G s lo cs).length<=G.length+1/\1<=(updE G s lo cs).length/\G.length<=(updE G s lo cs).length:=by
 rcases yix G s lo cs with h1|⟨h1,h2⟩
 ·have:=congrArg List.length h1
  simp only [List.length_map] at this
  refine ⟨by omega,?_,by omega⟩
  cases G with
  |nil=>simp [updE]
  |cons g G=>simp at this;omega
 ·have:=congrArg List.length h2
  simp only [List.length_map,List.length_append,List.length_cons,List.length_nil] at this
  omega
theorem yeh: ∀(G:List PE) {s:ByteArray} {lo:Int} {cs:List Int} {x:PE},x∈updE G s lo cs->x∈G\/x=⟨s,lo,cs⟩\/ ∃g∈G,g.key=s/\x=plS g lo cs
 |[],s,lo,cs,x,h=>by simp only [updE,List.mem_cons,List.not_mem_nil,or_false] at h;exact .inr (.inl h)
 |g::G,s,lo,cs,x,h=>by
  simp only [updE] at h
  split at h
  ·rename_i hk
   rcases List.mem_cons.1 h with rfl|h
   ·exact .inr (.inr ⟨g,List.mem_cons_self ..,hk,rfl⟩)
   ·exact .inl (List.mem_cons_of_mem _ h)
  ·rcases List.mem_cons.1 h with rfl|h
   ·exact .inl (List.mem_cons_self ..)
   ·rcases yeh G h with h|h|⟨g',h1,h2⟩
    ·exact .inl (List.mem_cons_of_mem _ h)
    ·exact .inr (.inl h)
    ·exact .inr (.inr ⟨g',List.mem_cons_of_mem _ h1,h2⟩)
def sumG (F:PE->Int):List PE->Int
 |[]=>0
 |g::G=>F g+sumG F G
def sumN (F:PE->Nat):List PE->Nat
 |[]=>0
 |g::G=>F g+sumN F G
theorem yk5 {F:PE->Int}: ∀(G:List PE) {s:ByteArray} {lo:Int} {cs:List Int},(∀g∈G,g.key=s->F (plS g lo cs)=F g+F ⟨s,lo,cs⟩)->sumG F (updE G s lo cs)=sumG F G+F ⟨s,lo,cs⟩
 |[],_,_,_,_=>by simp [updE,sumG]
 |g::G,s,lo,cs,h=>by
  simp only [updE,sumG]
  by_cases hk:g.key=s
  ·rw [if_pos hk,sumG,h g (List.mem_cons_self ..) hk];omega
  ·rw [if_neg hk,sumG,yk5 G fun g hg=>h g (List.mem_cons_of_mem _ hg)];omega
theorem yqq {F:PE->Nat}: ∀(G:List PE) {s:ByteArray} {lo:Int} {cs:List Int},(∀g∈G,g.key=s->F (plS g lo cs)<=F g+F ⟨s,lo,cs⟩)->sumN F (updE G s lo cs)<=sumN F G+F ⟨s,lo,cs⟩
 |[],_,_,_,_=>by simp [updE,sumN]
 |g::G,s,lo,cs,h=>by
  simp only [updE,sumN]
  by_cases hk:g.key=s
  ·rw [if_pos hk,sumN];have:=h g (List.mem_cons_self ..) hk;omega
  ·rw [if_neg hk,sumN];have:=yqq G fun g hg=>h g (List.mem_cons_of_mem _ hg);omega
theorem yk6 {F:PE->Nat}: ∀{G:List PE} {g:PE},g∈G->F g<=sumN F G
 |a::G,g,h=>by
  simp only [sumN]
  rcases List.mem_cons.1 h with rfl|h
  ·omega
  ·have:=yk6 (F:=F) h;omega
def dK (s:ByteArray):List Nat:=s.data.toList.map fun b=>b.toNat-97
theorem yeo {T:List Nat} (h: ∀i∈T,i<100):dK (pS T)=T:=by
 unfold dK
 rw [ymt,List.map_map]
 conv=>rhs;rw [←List.map_id T]
 refine List.map_congr_left fun i hi=>?_
 have:=h i hi
 simp only [Function.comp,UInt8.toNat_ofNat',id]
 omega
theorem ybp.lt {T:List Nat} {E:Nat} (h:ybp T E) (hE:E<=100): ∀i∈T,i<100:=fun i hi=>by
 obtain ⟨x,hx,rfl⟩:=List.mem_iff_getElem.1 hi
 have:=h.rng x (by rw [←h.len];exact hx)
 rw [List.getD_eq_getElem?_getD,List.getElem?_eq_getElem hx] at this
 simp only [Option.getD_some] at this
 omega
structure GOk (E:Nat) (par R:Int) (G:List PE):Prop where
 nd:ybd G
 ok: ∀g∈G,g.key=pS (dK g.key)/\ybp (dK g.key) E
 pr: ∀g∈G,(g.lo-par)% 2=0
 rg: ∀g∈G,-R<=g.lo/\g.lo+2*(g.cs.length:Int)<=R
 ne: ∀g∈G,0<g.cs.length
theorem GOk.nil (E:Nat) (par R:Int):GOk E par R []:=⟨by simp [ybd],by simp,by simp,by simp,by simp⟩
theorem GOk.upd {E:Nat} {par R:Int} {G:List PE} (h:GOk E par R G) {T:List Nat} {lo:Int} {cs:List Int} (hE:E<=100) (hT:ybp T E) (hp:(lo-par)% 2=0) (hr: -R<=lo/\lo+2*(cs.length:Int)<=R) (h0:0<cs.length):GOk E par R (updE G (pS T) lo cs):=by
 refine ⟨y3i h.nd,fun x hx=>?_,fun x hx=>?_,fun x hx=>?_,fun x hx=>?_⟩<;>rcases yeh G hx with hx|rfl|⟨g,hg,hk,rfl⟩
 ·exact h.ok x hx
 ·dsimp only;rw [yeo (hT.lt hE)];exact ⟨rfl,hT⟩
 ·exact h.ok g hg
 ·exact h.pr x hx
 ·exact hp
 ·have h1:=h.pr g hg
  have:=(ywq (cs:=cs) (by omega) (h.rg g hg) hr).2.2
  omega
 ·exact h.rg x hx
 ·exact hr
 ·have h1:=h.pr g hg
  have:=ywq (cs:=cs) (lo:=lo) (by omega) (h.rg g hg) hr
  exact ⟨this.1,this.2.1⟩
 ·exact h.ne x hx
 ·exact h0
 ·have h1:=h.ne g hg
  unfold plS
  dsimp only
  rw [yc9,ydj];omega
def vaS (m:List Int) (r:List Nat) (ends:List Int) (e:Int) (g:PE):Int:=finR m r ends (dK g.key) (pfE g.lo g.cs) e
def nuS (m:List Int) (r:List Nat) (ends:List Int) (g:PE):Nat:=mxN g.cs*nmR m r ends (dK g.key)
theorem ysr (m:List Int) (r:List Nat) (ends:List Int) (e:Int) {G:List PE} {par:Int} (h: ∀g∈G,(g.lo-par)% 2=0) {s:ByteArray} {lo:Int} {cs:List Int} (hp:(lo-par)% 2=0):sumG (vaS m r ends e) (updE G s lo cs)=sumG (vaS m r ends e) G+vaS m r ends e ⟨s,lo,cs⟩:=by
 refine yk5 G fun g hg hk=>?_
 have h1:=h g hg
 unfold vaS
 dsimp only
 rw [ybo m r ends _ (ywp (lo:=lo) (cs:=cs) (by omega)),yk2,show (plS g lo cs).key=g.key from rfl,hk]
theorem yss (m:List Int) (r:List Nat) (ends:List Int) (G:List PE) (s:ByteArray) (lo:Int) (cs:List Int):sumN (nuS m r ends) (updE G s lo cs)<=sumN (nuS m r ends) G+nuS m r ends ⟨s,lo,cs⟩:=by
 refine yqq G fun g hg hk=>?_
 unfold nuS
 dsimp only
 rw [show (plS g lo cs).key=g.key from rfl,hk,←Nat.add_mul]
 exact Nat.mul_le_mul_right _ (yqp g lo cs)
def exG (m:List Int) (c:Nat) (sp:Nat) (ends:List Int) (G:List PE) (g:PE):List PE:=
 updE (updE G (pS (nxT m ends c (dK g.key) false)) (g.lo+1-2*((ccN m ends c (dK g.key) false-sp:Nat):Int)) (tsL (ccN m ends c (dK g.key) false-sp) g.cs))
  (pS (nxT m ends c (dK g.key) true)) (g.lo-1-2*((ccN m ends c (dK g.key) true-sp:Nat):Int)) (tsL (ccN m ends c (dK g.key) true-sp) g.cs)
section
variable {m:List Int} {n:Nat} {P:List Nat} {ends:List Int} {c:Nat} (hp:PmOk m n) (he:yda m n P ends) (hc:c<n) (hcP:c∉P) (hw:ends.length<=90) (hw2:(endL m ends c).length<=90)
include hp he hc hcP hw hw2
theorem ywr {g:PE} {par R:Int} (hk:ybp (dK g.key) ends.length) (hpr:(g.lo-par)% 2=0) (hrg: -R<=g.lo/\g.lo+2*(g.cs.length:Int)<=R) (h0:0<g.cs.length) {G:List PE} (sp:Nat) (h:GOk (endL m ends c).length (par+1) (R+200) G):GOk (endL m ends c).length (par+1) (R+200) (exG m c sp ends G g):=by
 have q:=fun b=>(yb2 hp he hk hc hcP (fun _=>b)).1
 have l:=yg3 m ends c (dK g.key)
 have l0:=l false
 have l1:=l true
 unfold exG
 refine (h.upd (by omega) (q false) (by omega) ?_ (by rw [ybg];omega)).upd (by omega) (q true) (by omega) ?_ (by rw [ybg];omega)
 ·rw [ybg];omega
 ·rw [ybg];omega
theorem y5e {g:PE} {par R:Int} (hk:ybp (dK g.key) ends.length) (hpr:(g.lo-par)% 2=0) {G:List PE} (r:List Nat) (hrg: -R<=g.lo/\g.lo+2*(g.cs.length:Int)<=R) (h0:0<g.cs.length) (h:GOk (endL m ends c).length (par+1) (R+200) G) (e:Int):
  sumG (vaS m r (endL m ends c) e) (exG m c (spN r) ends G g)=sumG (vaS m r (endL m ends c) e) G+vaS m (c::r) ends e g:=by
 have q:=fun b=>(yb2 hp he hk hc hcP (fun _=>b)).1
 have l:=yg3 m ends c (dK g.key)
 have l0:=l false
 have l1:=l true
 have h1:=h.upd (T:=nxT m ends c (dK g.key) false) (lo:=g.lo+1-2*((ccN m ends c (dK g.key) false-spN r:Nat):Int)) (cs:=tsL (ccN m ends c (dK g.key) false-spN r) g.cs) (by omega) (q false) (by omega) (by rw [ybg];omega) (by rw [ybg];omega)
 unfold exG
 rw [ysr m r _ e h1.pr (by omega),ysr m r _ e h.pr (by omega),Int.add_assoc]
 congr 1
 unfold vaS
 dsimp only
 rw [yeo ((q false).lt (by omega)),yeo ((q true).lt (by omega))]
 simp only [finR]
 rw [show g.lo-1=g.lo+ -1 by omega]
 rw [ybo m r _ _ (yiw (g.lo+1) g.cs _),ybo m r _ _ (yiw (g.lo+ -1) g.cs _)]
 rw [ybo m r _ _ (ybe (ygk g.lo g.cs 1) _),ybo m r _ _ (ybe (ygk g.lo g.cs (-1)) _)]
theorem y5f {g:PE} (hk:ybp (dK g.key) ends.length) (G:List PE) (r:List Nat) (sp:Nat):
  sumN (nuS m r (endL m ends c)) (exG m c sp ends G g)<=sumN (nuS m r (endL m ends c)) G+nuS m (c::r) ends g:=by
 have q:=fun b=>(yb2 hp he hk hc hcP (fun _=>b)).1
 unfold exG
 have h1:=yss m r (endL m ends c) (updE G (pS (nxT m ends c (dK g.key) false)) (g.lo+1-2*((ccN m ends c (dK g.key) false-sp:Nat):Int)) (tsL (ccN m ends c (dK g.key) false-sp) g.cs)) (pS (nxT m ends c (dK g.key) true)) (g.lo-1-2*((ccN m ends c (dK g.key) true-sp:Nat):Int)) (tsL (ccN m ends c (dK g.key) true-sp) g.cs)
 have h2:=yss m r (endL m ends c) G (pS (nxT m ends c (dK g.key) false)) (g.lo+1-2*((ccN m ends c (dK g.key) false-sp:Nat):Int)) (tsL (ccN m ends c (dK g.key) false-sp) g.cs)
 have key: ∀(b:Bool) (lo:Int),nuS m r (endL m ends c) ⟨pS (nxT m ends c (dK g.key) b),lo,tsL (ccN m ends c (dK g.key) b-sp) g.cs⟩<=mxN g.cs*(2^ccN m ends c (dK g.key) b*nmR m r (endL m ends c) (nxT m ends c (dK g.key) b)):=fun b lo=>by
  unfold nuS
  dsimp only
  rw [yeo ((q b).lt (by omega)),←Nat.mul_assoc]
  refine Nat.mul_le_mul_right _ (Nat.le_trans (ye1 _ _) ?_)
  rw [Nat.mul_comm]
  exact Nat.mul_le_mul_left _ (Nat.pow_le_pow_right (by omega) (by omega))
 have k0:=key false (g.lo+1-2*((ccN m ends c (dK g.key) false-sp:Nat):Int))
 have k1:=key true (g.lo-1-2*((ccN m ends c (dK g.key) true-sp:Nat):Int))
 have e:nuS m (c::r) ends g=mxN g.cs*(2^ccN m ends c (dK g.key) false*nmR m r (endL m ends c) (nxT m ends c (dK g.key) false))+mxN g.cs*(2^ccN m ends c (dK g.key) true*nmR m r (endL m ends c) (nxT m ends c (dK g.key) true)):=by
  unfold nuS;simp only [nmR];rw [Nat.mul_add]
 omega
end
theorem yst (m:List Int) (c sp:Nat) (ends:List Int) (G:List PE) (g:PE):(exG m c sp ends G g).length<=G.length+2/\1<=(exG m c sp ends G g).length:=by
 unfold exG
 have h1:=yk4 G (pS (nxT m ends c (dK g.key) false)) (g.lo+1-2*((ccN m ends c (dK g.key) false-sp:Nat):Int)) (tsL (ccN m ends c (dK g.key) false-sp) g.cs)
 have h2:=yk4 (updE G (pS (nxT m ends c (dK g.key) false)) (g.lo+1-2*((ccN m ends c (dK g.key) false-sp:Nat):Int)) (tsL (ccN m ends c (dK g.key) false-sp) g.cs)) (pS (nxT m ends c (dK g.key) true)) (g.lo-1-2*((ccN m ends c (dK g.key) true-sp:Nat):Int)) (tsL (ccN m ends c (dK g.key) true-sp) g.cs)
 omega
end Go.Proofs.YtmdjdekgakidhaaDoor
