/- Plain: the coefficients of a row of integers; the states of a stage, and their sum. -/
import Derived.Test.YtphjphpmfflfpaaGreatDoorZe
import Derived.Test.YtphjphpmfflfpaaGreatDoorZg
namespace Go.Proofs.YtphjphpmfflfpaaGreatDoor
set_option linter.unusedVariables false
set_option linter.unusedSimpArgs false
set_option linter.unusedSectionVars false
def jc (lo:Int) (cs:List Int) (e:Int):Int:=if lo<=e/\(e-lo)% 2=0 then cs.getD ((e-lo)/2).toNat 0 else 0
theorem vI (lo:Int) (cs:List Int) (i:Nat):jc lo cs (lo+2*(i:Int))=cs.getD i 0:=by
 unfold jc;rw [if_pos (by omega),show ((lo+2*(i:Int)-lo)/2).toNat=i by omega]
theorem sw {lo:Int} {cs:List Int} {e:Int} (h:e<lo):jc lo cs e=0:=by unfold jc;rw [if_neg (by omega)]
theorem xn {lo:Int} {cs:List Int} {e:Int} (h:(e-lo)% 2≠0):jc lo cs e=0:=by unfold jc;rw [if_neg (by omega)]
theorem Ta (lo:Int) (cs:List Int) (a e:Int):jc (lo+a) cs e=jc lo cs (e-a):=by
 unfold jc;rw [show e-(lo+a)=e-a-lo by omega];by_cases h:lo<=e-a/\(e-a-lo)% 2=0
 ·rw [if_pos h,if_pos ⟨by omega,h.2⟩]
 ·rw [if_neg h,if_neg fun g=>h ⟨by omega,g.2⟩]
theorem n8 {cs:List Int} {i:Nat} (h:cs.length<=i):cs.getD i 0=0:=by simp [List.getD_eq_getElem?_getD,h]
theorem Lj (lo e:Int):(e-lo)% 2≠0\/e<lo\/ ∃i:Nat,e=lo+2*(i:Int):=by
 by_cases h1:(e-lo)% 2=0
 ·by_cases h2:e<lo
  ·exact .inr (.inl h2)
  ·exact .inr (.inr ⟨((e-lo)/2).toNat,by omega⟩)
 ·exact .inl h1
theorem Nx (lo:Int) (cs:List Int) (e:Int):jc (lo-2) (du cs cs.length) e=cS (jc lo cs) e:=by
 unfold cS;rcases Lj (lo-2) e with h|h|⟨i,rfl⟩
 ·rw [xn h,xn (by omega),xn (by omega)];rfl
 ·rw [sw h,sw (by omega),sw (by omega)];rfl
 ·rw [vI,show lo-2+2*(i:Int)+2=lo+2*(i:Int) by omega,vI];have h3:jc lo cs (lo-2+2*(i:Int)-2)=if 2<=i then cs.getD (i-2) 0 else 0:=by
   split
   ·rw [show lo-2+2*(i:Int)-2=lo+2*((i-2:Nat):Int) by omega,vI]
   ·exact sw (by omega)
  rw [h3];by_cases hi:i<cs.length+2
  ·rw [BE _ _ _ hi];by_cases h4:i<cs.length
   ·rw [if_pos h4];by_cases h5:2<=i
    ·rw [if_pos ⟨h5,by omega⟩,if_pos h5]
    ·rw [if_neg (by omega),if_neg h5]
   ·rw [if_neg h4,n8 (cs:=cs) (i:=i) (by omega)];by_cases h5:2<=i/\i-2<cs.length
    ·rw [if_pos h5,if_pos h5.1];rfl
    ·rw [if_neg h5];by_cases h6:2<=i
     ·rw [if_pos h6,n8 (by omega)];rfl
     ·rw [if_neg h6];rfl
  ·rw [n8 (by rw [zq];omega),n8 (cs:=cs) (i:=i) (by omega),if_pos (by omega),n8 (by omega)];rfl
theorem KP (a:Nat) (p:List Int) {N i:Nat} (h:i<N):(dP a p N).getD i 0=if a<=i/\i-a<p.length then p.getD (i-a) 0 else 0:=by simp [dP,List.getD_eq_getElem?_getD,h]
theorem N7 (lo:Int) (a N:Nat) (p:List Int) (h:a+p.length<=N) (e:Int):jc lo (dP a p N) e=jc (lo+2*(a:Int)) p e:=by
 rcases Lj lo e with h1|h1|⟨i,rfl⟩
 ·rw [xn h1,xn (by omega)]
 ·rw [sw h1,sw (by omega)]
 ·rw [vI];by_cases h2:a<=i
  ·rw [show lo+2*(i:Int)=lo+2*(a:Int)+2*((i-a:Nat):Int) by omega,vI];by_cases h3:i<N
   ·rw [KP _ _ h3];by_cases h4:i-a<p.length
    ·rw [if_pos ⟨h2,h4⟩]
    ·rw [if_neg fun g=>h4 g.2,n8 (by omega)]
   ·rw [n8 (by rw [zn];omega),n8 (by omega)]
  ·rw [sw (e:=lo+2*(i:Int)) (by omega),KP _ _ (by omega),if_neg fun g=>h2 g.1]
theorem MP (lo:Int) (r:List Int) (b:Nat) (q:List Int) (h:b+q.length<=r.length) (e:Int):jc lo (iB r b q q.length) e=jc lo r e+jc (lo+2*(b:Int)) q e:=by
 rcases Lj lo e with h1|h1|⟨i,rfl⟩
 ·rw [xn h1,xn h1,xn (by omega)];rfl
 ·rw [sw h1,sw h1,sw (by omega)];rfl
 ·rw [vI,vI];by_cases h3:i<r.length
  ·rw [CQ _ _ _ _ _ h3];by_cases h2:b<=i
   ·rw [show lo+2*(i:Int)=lo+2*(b:Int)+2*((i-b:Nat):Int) by omega,vI];by_cases h4:i-b<q.length
    ·rw [if_pos ⟨h2,h4⟩]
    ·rw [if_neg fun g=>h4 g.2,n8 (cs:=q) (by omega)]
   ·rw [sw (e:=lo+2*(i:Int)) (by omega),if_neg fun g=>h2 g.1]
  ·rw [n8 (by rw [vO];omega),n8 (cs:=r) (by omega)];by_cases h2:b<=i
   ·rw [show lo+2*(i:Int)=lo+2*(b:Int)+2*((i-b:Nat):Int) by omega,vI,n8 (by omega)];rfl
   ·rw [sw (e:=lo+2*(i:Int)) (by omega)];rfl
def mxN:List Int->Nat
 |[]=>0
 |c::l=>max c.natAbs (mxN l)
theorem CN {B:Nat}: ∀{l:List Int},mxN l<=B↔ ∀i,(l.getD i 0).natAbs<=B
 |[]=>by simp [mxN]
 |c::l=>by
  simp only [mxN,Nat.max_le,CN (l:=l)];constructor
  ·rintro ⟨h1,h2⟩ i
   match i with
   |0=>simpa using h1
   |i+1=>simpa using h2 i
  ·exact fun h=>⟨by simpa using h 0,fun i=>by simpa using h (i+1)⟩
theorem xg (l:List Int) (i:Nat):(l.getD i 0).natAbs<=mxN l:=CN.1 (Nat.le_refl _) i
theorem N6 (cs:List Int) (k:Nat):mxN (du cs k)<=2*mxN cs:=CN.2 fun i=>by
 by_cases h:i<cs.length+2
 ·rw [BE _ _ _ h];have h1:=xg cs i;have h2:=xg cs (i-2)
  split<;>split<;>omega
 ·rw [n8 (by rw [zq];omega)];simp
theorem MO (r:List Int) (b:Nat) (q:List Int) (k:Nat):mxN (iB r b q k)<=mxN r+mxN q:=CN.2 fun i=>by
 by_cases h:i<r.length
 ·rw [CQ _ _ _ _ _ h];have h1:=xg r i;have h2:=xg q (i-b)
  split<;>omega
 ·rw [n8 (by rw [vO];omega)];simp
theorem N5 (a:Nat) (p:List Int) (N:Nat):mxN (dP a p N)<=mxN p:=CN.2 fun i=>by
 by_cases h:i<N
 ·rw [KP _ _ h];have h2:=xg p (i-a)
  split
  ·exact h2
  ·simp
 ·rw [n8 (by rw [zn];omega)];simp
def tsL:Nat->List Int->List Int
 |0,cs=>cs
 |j+1,cs=>du (tsL j cs) (tsL j cs).length
theorem pG (cs:List Int): ∀j,(tsL j cs).length=cs.length+2*j
 |0=>rfl
 |j+1=>by simp only [tsL,zq,pG cs j];omega
theorem yY (cs:List Int): ∀j,mxN (tsL j cs)<=2^j*mxN cs
 |0=>by simp [tsL]
 |j+1=>by
  have h1:=N6 (tsL j cs) (tsL j cs).length;have h2:=yY cs j;simp only [tsL];rw [Nat.pow_succ,Nat.mul_right_comm];omega
theorem Jl (lo:Int) (cs:List Int): ∀(j:Nat) (e:Int),jc (lo-2*(j:Int)) (tsL j cs) e=dmn j (jc lo cs) e
 |0,e=>by simp [tsL,dmn]
 |j+1,e=>by
  rw [show lo-2*((j+1:Nat):Int)=lo-2*(j:Int)-2 by omega];simp only [tsL,dmn];rw [Nx];exact B0 (Jl lo cs j) e
def nN (g:PE) (lo:Int) (cs:List Int):PE:=
 ⟨g.key,min g.lo lo,iB (dP ((g.lo-min g.lo lo)/2).toNat g.cs (max (((g.lo-min g.lo lo)/2).toNat+g.cs.length) (((lo-min g.lo lo)/2).toNat+cs.length))) ((lo-min g.lo lo)/2).toNat cs cs.length⟩
theorem Jk {g:PE} {lo:Int} {cs:List Int} (a b N:Nat) (dU:Int) (P3:g.lo=dU+2*(a:Int)) (Ag:lo=dU+2*(b:Int)) (fC:a=0\/b=0) (hN:N=max (a+g.cs.length) (b+cs.length)):nN g lo cs=⟨g.key,dU,iB (dP a g.cs N) b cs cs.length⟩:=by
 have h1:min g.lo lo=dU:=by omega
 unfold nN;rw [h1,show ((g.lo-dU)/2).toNat=a by omega,show ((lo-dU)/2).toNat=b by omega,←hN]
theorem Jj {g:PE} {lo:Int} {cs:List Int} (h:(g.lo-lo)% 2=0): ∃(a b:Nat) (dU:Int),g.lo=dU+2*(a:Int)/\lo=dU+2*(b:Int)/\(a=0\/b=0):=by
 rcases Int.lt_or_le g.lo lo with h1|h1
 ·exact ⟨0,((lo-g.lo)/2).toNat,g.lo,by omega,by omega, .inl rfl⟩
 ·exact ⟨((g.lo-lo)/2).toNat,0,lo,by omega,by omega, .inr rfl⟩
theorem y5j (p:List Int):dP 0 p p.length=p:=by
 refine List.ext_getElem? fun i=>?_;by_cases h:i<p.length<;>simp [dP,h]
theorem MN {g:PE} {lo:Int} {cs:List Int} (h:(g.lo-lo)% 2=0) (e:Int):jc (nN g lo cs).lo (nN g lo cs).cs e=jc g.lo g.cs e+jc lo cs e:=by
 obtain ⟨a,b,dU,h1,h2,h3⟩:=Jj (cs:=cs) h;rw [Jk a b _ dU h1 h2 h3 rfl];dsimp only;rw [MP _ _ _ _ (by rw [zn];omega),N7 _ _ _ _ (by omega),←h1,←h2]
theorem Vf (g:PE) (lo:Int) (cs:List Int):mxN (nN g lo cs).cs<=mxN g.cs+mxN cs:=by
 unfold nN;dsimp only;exact Nat.le_trans (MO _ _ _ _) (Nat.add_le_add_right (N5 _ _ _) _)
theorem Ve {g:PE} {lo:Int} {cs:List Int} (h:(g.lo-lo)% 2=0) {R:Int} (h1: -R<=g.lo/\g.lo+2*(g.cs.length:Int)<=R) (h2: -R<=lo/\lo+2*(cs.length:Int)<=R): -R<=(nN g lo cs).lo/\(nN g lo cs).lo+2*((nN g lo cs).cs.length:Int)<=R/\((nN g lo cs).lo-lo)% 2=0:=by
 obtain ⟨a,b,dU,q1,q2,q3⟩:=Jj (cs:=cs) h;rw [Jk a b _ dU q1 q2 q3 rfl];dsimp only;rw [vO,zn];omega
def updE:List PE->ByteArray->Int->List Int->List PE
 |[],s,lo,cs=>[⟨s,lo,cs⟩]
 |g::G,s,lo,cs=>if g.key=s then nN g lo cs::G else g::updE G s lo cs
theorem S9: ∀(G:List PE) {s:ByteArray} {lo:Int} {cs:List Int},(∀g∈G,g.key≠s)->updE G s lo cs=G++[⟨s,lo,cs⟩]
 |[],_,_,_,_=>rfl
 |g::G,s,lo,cs,h=>by
  simp only [updE,List.cons_append];rw [if_neg (h g (List.mem_cons_self ..)),S9 G fun g hg=>h g (List.mem_cons_of_mem _ hg)]
theorem S8: ∀(G:List PE) {j:Nat} {g:PE} {lo:Int} {cs:List Int},l5 G->G[j]?=some g->updE G g.key lo cs=G.set j (nN g lo cs)
 |[],_,_,_,_,_,h=>by simp at h
 |a::G,0,g,lo,cs,hk,h=>by
  simp only [List.getElem?_cons_zero,Option.some.injEq] at h;subst h;simp only [updE,if_true,List.set_cons_zero]
 |a::G,j+1,g,lo,cs,hk,h=>by
  simp only [List.getElem?_cons_succ] at h;unfold l5 at hk;rw [List.map_cons,List.nodup_cons] at hk;have az:a.key≠g.key:=fun e=>hk.1 (e▸List.mem_map.2 ⟨g,List.mem_of_getElem? h,rfl⟩);simp only [updE,if_neg az,List.set_cons_succ];rw [S8 G hk.2 h]
theorem Li: ∀(G:List PE) (s:ByteArray) (lo:Int) (cs:List Int),(updE G s lo cs).map (·.key)=G.map (·.key)\/((∀g∈G,g.key≠s)/\(updE G s lo cs).map (·.key)=G.map (·.key)++[s])
 |[],_,_,_=> .inr ⟨by simp,rfl⟩
 |g::G,s,lo,cs=>by
  simp only [updE];by_cases h:g.key=s
  ·left;rw [if_pos h];rfl
  ·rw [if_neg h];rcases Li G s lo cs with h1|⟨h1,h2⟩
   ·left;rw [List.map_cons,h1];rfl
   ·right;refine ⟨fun a ha=>?_,by rw [List.map_cons,h2];rfl⟩;rcases List.mem_cons.1 ha with rfl|ha
    ·exact h
    ·exact h1 a ha
theorem N4 {G:List PE} {s:ByteArray} {lo:Int} {cs:List Int} (h:l5 G):l5 (updE G s lo cs):=by
 unfold l5 at*;rcases Li G s lo cs with h1|⟨h1,h2⟩
 ·rw [h1];exact h
 ·rw [h2,List.nodup_append];refine ⟨h,by simp,fun x hx y hy e=>?_⟩;obtain ⟨g,hg,rfl⟩:=List.mem_map.1 hx;simp only [List.mem_cons,List.not_mem_nil,or_false] at hy;exact h1 g hg (e.trans hy)
theorem KO (G:List PE) (s:ByteArray) (lo:Int) (cs:List Int):(updE G s lo cs).length<=G.length+1/\1<=(updE G s lo cs).length/\G.length<=(updE G s lo cs).length:=by
 rcases Li G s lo cs with h1|⟨h1,h2⟩
 ·have:=congrArg List.length h1
  simp only [List.length_map] at this;refine ⟨by omega,?_,by omega⟩;cases G with
  |nil=>simp [updE]
  |cons g G=>simp at this;omega
 ·have:=congrArg List.length h2
  simp only [List.length_map,List.length_append,List.length_cons,List.length_nil] at this;omega
theorem KN: ∀(G:List PE) {s:ByteArray} {lo:Int} {cs:List Int} {x:PE},x∈updE G s lo cs->x∈G\/x=⟨s,lo,cs⟩\/ ∃g∈G,g.key=s/\x=nN g lo cs
 |[],s,lo,cs,x,h=>by simp only [updE,List.mem_cons,List.not_mem_nil,or_false] at h;exact .inr (.inl h)
 |g::G,s,lo,cs,x,h=>by
  simp only [updE] at h
  split at h
  ·rename_i hk
   rcases List.mem_cons.1 h with rfl|h
   ·exact .inr (.inr ⟨g,List.mem_cons_self ..,hk,rfl⟩)
   ·exact .inl (List.mem_cons_of_mem _ h)
  ·rcases List.mem_cons.1 h with rfl|h
   ·exact .inl (List.mem_cons_self ..)
   ·rcases KN G h with h|h|⟨g',h1,h2⟩
    ·exact .inl (List.mem_cons_of_mem _ h)
    ·exact .inr (.inl h)
    ·exact .inr (.inr ⟨g',List.mem_cons_of_mem _ h1,h2⟩)
def sumG (F:PE->Int):List PE->Int
 |[]=>0
 |g::G=>F g+sumG F G
def eW (F:PE->Nat):List PE->Nat
 |[]=>0
 |g::G=>F g+eW F G
theorem R7 {F:PE->Int}: ∀(G:List PE) {s:ByteArray} {lo:Int} {cs:List Int},(∀g∈G,g.key=s->F (nN g lo cs)=F g+F ⟨s,lo,cs⟩)->sumG F (updE G s lo cs)=sumG F G+F ⟨s,lo,cs⟩
 |[],_,_,_,_=>by simp [updE,sumG]
 |g::G,s,lo,cs,h=>by
  simp only [updE,sumG];by_cases hk:g.key=s
  ·rw [if_pos hk,sumG,h g (List.mem_cons_self ..) hk];omega
  ·rw [if_neg hk,sumG,R7 G fun g hg=>h g (List.mem_cons_of_mem _ hg)];omega
theorem R6 {F:PE->Nat}: ∀(G:List PE) {s:ByteArray} {lo:Int} {cs:List Int},(∀g∈G,g.key=s->F (nN g lo cs)<=F g+F ⟨s,lo,cs⟩)->eW F (updE G s lo cs)<=eW F G+F ⟨s,lo,cs⟩
 |[],_,_,_,_=>by simp [updE,eW]
 |g::G,s,lo,cs,h=>by
  simp only [updE,eW];by_cases hk:g.key=s
  ·rw [if_pos hk,eW];have:=h g (List.mem_cons_self ..) hk;omega
  ·rw [if_neg hk,eW];have:=R6 G fun g hg=>h g (List.mem_cons_of_mem _ hg);omega
theorem KM {F:PE->Nat}: ∀{G:List PE} {g:PE},g∈G->F g<=eW F G
 |a::G,g,h=>by
  simp only [eW];rcases List.mem_cons.1 h with rfl|h
  ·omega
  ·have:=KM (F:=F) h;omega
def dK (s:ByteArray):List Nat:=s.data.toList.map fun b=>b.toNat-97
theorem CK {T:List Nat} (h: ∀i∈T,i<100):dK (pS T)=T:=by
 unfold dK;rw [Kg,List.map_map]
 conv=>rhs;rw [←List.map_id T]
 refine List.map_congr_left fun i hi=>?_
 have:=h i hi
 simp only [Function.comp,UInt8.toNat_ofNat',id];omega
theorem oX.lt {T:List Nat} {E:Nat} (h:oX T E) (hE:E<=100): ∀i∈T,i<100:=fun i hi=>by
 obtain ⟨x,hx,rfl⟩:=List.mem_iff_getElem.1 hi
 have:=h.cn x (by rw [←h.len];exact hx)
 rw [List.getD_eq_getElem?_getD,List.getElem?_eq_getElem hx] at this;simp only [Option.getD_some] at this;omega
structure sc (E:Nat) (par R:Int) (G:List PE):Prop where
 nd:l5 G
 ok: ∀g∈G,g.key=pS (dK g.key)/\oX (dK g.key) E
 pr: ∀g∈G,(g.lo-par)% 2=0
 rg: ∀g∈G,-R<=g.lo/\g.lo+2*(g.cs.length:Int)<=R
 ne: ∀g∈G,0<g.cs.length
theorem sc.nil (E:Nat) (par R:Int):sc E par R []:=⟨by simp [l5],by simp,by simp,by simp,by simp⟩
theorem sc.dt {E:Nat} {par R:Int} {G:List PE} (h:sc E par R G) {T:List Nat} {lo:Int} {cs:List Int} (hE:E<=100) (hT:oX T E) (hp:(lo-par)% 2=0) (hr: -R<=lo/\lo+2*(cs.length:Int)<=R) (h0:0<cs.length):sc E par R (updE G (pS T) lo cs):=by
 refine ⟨N4 h.nd,fun x hx=>?_,fun x hx=>?_,fun x hx=>?_,fun x hx=>?_⟩<;>rcases KN G hx with hx|rfl|⟨g,hg,hk,rfl⟩
 ·exact h.ok x hx
 ·dsimp only;rw [CK (hT.lt hE)];exact ⟨rfl,hT⟩
 ·exact h.ok g hg
 ·exact h.pr x hx
 ·exact hp
 ·have h1:=h.pr g hg
  have:=(Ve (cs:=cs) (by omega) (h.rg g hg) hr).2.2
  omega
 ·exact h.rg x hx
 ·exact hr
 ·have h1:=h.pr g hg
  have:=Ve (cs:=cs) (lo:=lo) (by omega) (h.rg g hg) hr
  exact ⟨this.1,this.2.1⟩
 ·exact h.ne x hx
 ·exact h0
 ·have h1:=h.ne g hg;unfold nN;dsimp only;rw [vO,zn];omega
def qx (m:List Int) (r:List Nat) (ends:List Int) (e:Int) (g:PE):Int:=finR m r ends (dK g.key) (jc g.lo g.cs) e
def ld (m:List Int) (r:List Nat) (ends:List Int) (g:PE):Nat:=mxN g.cs*nmR m r ends (dK g.key)
theorem Rq (m:List Int) (r:List Nat) (ends:List Int) (e:Int) {G:List PE} {par:Int} (h: ∀g∈G,(g.lo-par)% 2=0) {s:ByteArray} {lo:Int} {cs:List Int} (hp:(lo-par)% 2=0):sumG (qx m r ends e) (updE G s lo cs)=sumG (qx m r ends e) G+qx m r ends e ⟨s,lo,cs⟩:=by
 refine R7 G fun g hg hk=>?_;have h1:=h g hg;unfold qx;dsimp only;rw [u7 m r ends _ (MN (lo:=lo) (cs:=cs) (by omega)),KQ,show (nN g lo cs).key=g.key from rfl,hk]
theorem Wn (m:List Int) (r:List Nat) (ends:List Int) (G:List PE) (s:ByteArray) (lo:Int) (cs:List Int):eW (ld m r ends) (updE G s lo cs)<=eW (ld m r ends) G+ld m r ends ⟨s,lo,cs⟩:=by
 refine R6 G fun g hg hk=>?_;unfold ld;dsimp only;rw [show (nN g lo cs).key=g.key from rfl,hk,←Nat.add_mul];exact Nat.mul_le_mul_right _ (Vf g lo cs)
def sT (m:List Int) (c:Nat) (sp:Nat) (ends:List Int) (G:List PE) (g:PE):List PE:=
 updE (updE G (pS (dG m ends c (dK g.key) false)) (g.lo+1-2*((c6 m ends c (dK g.key) false-sp:Nat):Int)) (tsL (c6 m ends c (dK g.key) false-sp) g.cs))
  (pS (dG m ends c (dK g.key) true)) (g.lo-1-2*((c6 m ends c (dK g.key) true-sp:Nat):Int)) (tsL (c6 m ends c (dK g.key) true-sp) g.cs)
section
variable {m:List Int} {n:Nat} {P:List Nat} {ends:List Int} {c:Nat} (hp:aE m n) (he:s5 m n P ends) (hc:c<n) (bB:c∉P) (hw:ends.length<=90) (iV:(aP m ends c).length<=90)
include hp he hc bB hw iV
theorem ML {g:PE} {par R:Int} (hk:oX (dK g.key) ends.length) (rM:(g.lo-par)% 2=0) (vn: -R<=g.lo/\g.lo+2*(g.cs.length:Int)<=R) (h0:0<g.cs.length) {G:List PE} (sp:Nat) (h:sc (aP m ends c).length (par+1) (R+200) G):sc (aP m ends c).length (par+1) (R+200) (sT m c sp ends G g):=by
 have q:=fun b=>(vS hp he hk hc bB (fun _=>b)).1;have l:=CO m ends c (dK g.key);have l0:=l false;have l1:=l true;unfold sT;refine (h.dt (by omega) (q false) (by omega) ?_ (by rw [pG];omega)).dt (by omega) (q true) (by omega) ?_ (by rw [pG];omega)
 ·rw [pG];omega
 ·rw [pG];omega
theorem Mn {g:PE} {par R:Int} (hk:oX (dK g.key) ends.length) (rM:(g.lo-par)% 2=0) {G:List PE} (r:List Nat) (vn: -R<=g.lo/\g.lo+2*(g.cs.length:Int)<=R) (h0:0<g.cs.length) (h:sc (aP m ends c).length (par+1) (R+200) G) (e:Int):
  sumG (qx m r (aP m ends c) e) (sT m c (spN r) ends G g)=sumG (qx m r (aP m ends c) e) G+qx m (c::r) ends e g:=by
 have q:=fun b=>(vS hp he hk hc bB (fun _=>b)).1;have l:=CO m ends c (dK g.key);have l0:=l false;have l1:=l true;have h1:=h.dt (T:=dG m ends c (dK g.key) false) (lo:=g.lo+1-2*((c6 m ends c (dK g.key) false-spN r:Nat):Int)) (cs:=tsL (c6 m ends c (dK g.key) false-spN r) g.cs) (by omega) (q false) (by omega) (by rw [pG];omega) (by rw [pG];omega);unfold sT
 rw [Rq m r _ e h1.pr (by omega),Rq m r _ e h.pr (by omega),Int.add_assoc];congr 1;unfold qx;dsimp only;rw [CK ((q false).lt (by omega)),CK ((q true).lt (by omega))];simp only [finR];rw [show g.lo-1=g.lo+ -1 by omega];rw [u7 m r _ _ (Jl (g.lo+1) g.cs _),u7 m r _ _ (Jl (g.lo+ -1) g.cs _)];rw [u7 m r _ _ (tc (Ta g.lo g.cs 1) _),u7 m r _ _ (tc (Ta g.lo g.cs (-1)) _)]
theorem Mm {g:PE} (hk:oX (dK g.key) ends.length) (G:List PE) (r:List Nat) (sp:Nat):
  eW (ld m r (aP m ends c)) (sT m c sp ends G g)<=eW (ld m r (aP m ends c)) G+ld m (c::r) ends g:=by
 have q:=fun b=>(vS hp he hk hc bB (fun _=>b)).1;unfold sT;have h1:=Wn m r (aP m ends c) (updE G (pS (dG m ends c (dK g.key) false)) (g.lo+1-2*((c6 m ends c (dK g.key) false-sp:Nat):Int)) (tsL (c6 m ends c (dK g.key) false-sp) g.cs)) (pS (dG m ends c (dK g.key) true)) (g.lo-1-2*((c6 m ends c (dK g.key) true-sp:Nat):Int)) (tsL (c6 m ends c (dK g.key) true-sp) g.cs)
 have h2:=Wn m r (aP m ends c) G (pS (dG m ends c (dK g.key) false)) (g.lo+1-2*((c6 m ends c (dK g.key) false-sp:Nat):Int)) (tsL (c6 m ends c (dK g.key) false-sp) g.cs)
 have key: ∀(b:Bool) (lo:Int),ld m r (aP m ends c) ⟨pS (dG m ends c (dK g.key) b),lo,tsL (c6 m ends c (dK g.key) b-sp) g.cs⟩<=mxN g.cs*(2^c6 m ends c (dK g.key) b*nmR m r (aP m ends c) (dG m ends c (dK g.key) b)):=fun b lo=>by
  unfold ld;dsimp only;rw [CK ((q b).lt (by omega)),←Nat.mul_assoc];refine Nat.mul_le_mul_right _ (Nat.le_trans (yY _ _) ?_);rw [Nat.mul_comm];exact Nat.mul_le_mul_left _ (Nat.pow_le_pow_right (by omega) (by omega))
 have k0:=key false (g.lo+1-2*((c6 m ends c (dK g.key) false-sp:Nat):Int));have k1:=key true (g.lo-1-2*((c6 m ends c (dK g.key) true-sp:Nat):Int));have e:ld m (c::r) ends g=mxN g.cs*(2^c6 m ends c (dK g.key) false*nmR m r (aP m ends c) (dG m ends c (dK g.key) false))+mxN g.cs*(2^c6 m ends c (dK g.key) true*nmR m r (aP m ends c) (dG m ends c (dK g.key) true)):=by
  unfold ld;simp only [nmR];rw [Nat.mul_add]
 omega
end
theorem N3 (m:List Int) (c sp:Nat) (ends:List Int) (G:List PE) (g:PE):(sT m c sp ends G g).length<=G.length+2/\1<=(sT m c sp ends G g).length:=by
 unfold sT;have h1:=KO G (pS (dG m ends c (dK g.key) false)) (g.lo+1-2*((c6 m ends c (dK g.key) false-sp:Nat):Int)) (tsL (c6 m ends c (dK g.key) false-sp) g.cs)
 have h2:=KO (updE G (pS (dG m ends c (dK g.key) false)) (g.lo+1-2*((c6 m ends c (dK g.key) false-sp:Nat):Int)) (tsL (c6 m ends c (dK g.key) false-sp) g.cs)) (pS (dG m ends c (dK g.key) true)) (g.lo-1-2*((c6 m ends c (dK g.key) true-sp:Nat):Int)) (tsL (c6 m ends c (dK g.key) true-sp) g.cs);omega
open Go Go.RowKit
set_option maxRecDepth 100000
set_option maxHeartbeats 8000000
def xf:Tr:= .node [(1, .node [(0, .node [(2, .node [(3, .node [(4, .node [(5, .done)])])]),(3, .node [(2, .node [(4, .node [(5, .done)])])])]),(2, .node [(0, .node [(3, .node [(4, .node [(5, .done)])])]),(3, .node [(0, .node [(4, .node [(5, .done)])]),(4, .node [(0, .node [(5, .done)])])])]),(3, .node [(0, .node [(2, .node [(4, .node [(5, .done)])])]),(2, .node [(0, .node [(4, .node [(5, .done)])]),(4, .node [(0, .node [(5, .done)])])])])])]
def xe:Tr:= .node [(0, .node [(1, .node [(2, .node [(3, .node [(4, .node [(5, .done)])])]),(3, .node [(2, .node [(4, .node [(5, .done)])])])]),(2, .node [(1, .node [(3, .node [(4, .node [(5, .done)])])]),(3, .node [(1, .node [(4, .node [(5, .done)])]),(4, .node [(1, .node [(5, .done)])])])]),(3, .node [(1, .node [(2, .node [(4, .node [(5, .done)])])]),(2, .node [(1, .node [(4, .node [(5, .done)])]),(4, .node [(1, .node [(5, .done)])])])])]),(1, .node [(0, .node [(2, .node [(3, .node [(4, .node [(5, .done)])])]),(3, .node [(2, .node [(4, .node [(5, .done)])])])]),(2, .node [(0, .node [(3, .node [(4, .node [(5, .done)])])]),(3, .node [(0, .node [(4, .node [(5, .done)])]),(4, .node [(0, .node [(5, .done)])])])]),(3, .node [(0, .node [(2, .node [(4, .node [(5, .done)])])]),(2, .node [(0, .node [(4, .node [(5, .done)])]),(4, .node [(0, .node [(5, .done)])])])])]),(2, .node [(0, .node [(1, .node [(3, .node [(4, .node [(5, .done)])])]),(3, .node [(1, .node [(4, .node [(5, .done)])]),(4, .node [(1, .node [(5, .done)])])])]),(1, .node [(0, .node [(3, .node [(4, .node [(5, .done)])])]),(3, .node [(0, .node [(4, .node [(5, .done)])]),(4, .node [(0, .node [(5, .done)])])])]),(3, .node [(0, .node [(1, .node [(4, .node [(5, .done)])]),(4, .node [(1, .node [(5, .done)])])]),(1, .node [(0, .node [(4, .node [(5, .done)])]),(4, .node [(0, .node [(5, .done)])])]),(4, .node [(0, .node [(1, .node [(5, .done)])]),(1, .node [(0, .node [(5, .done)])])])])]),(3, .node [(0, .node [(1, .node [(2, .node [(4, .node [(5, .done)])])]),(2, .node [(1, .node [(4, .node [(5, .done)])]),(4, .node [(1, .node [(5, .done)])])])]),(1, .node [(0, .node [(2, .node [(4, .node [(5, .done)])])]),(2, .node [(0, .node [(4, .node [(5, .done)])]),(4, .node [(0, .node [(5, .done)])])])]),(2, .node [(0, .node [(1, .node [(4, .node [(5, .done)])]),(4, .node [(1, .node [(5, .done)])])]),(1, .node [(0, .node [(4, .node [(5, .done)])]),(4, .node [(0, .node [(5, .done)])])]),(4, .node [(0, .node [(1, .node [(5, .done)])]),(1, .node [(0, .node [(5, .done)])])])])])]
def xd:Tr:= .node [(1, .node [(0, .node [(2, .node [(3, .node [(4, .node [(5, .node [(6, .node [(7, .node [(8, .done)])])])])]),(4, .node [(3, .node [(5, .node [(6, .node [(7, .node [(8, .done)])])])]),(5, .node [(3, .node [(6, .node [(7, .node [(8, .done)])])]),(6, .node [(3, .node [(7, .node [(8, .done)])])])])])]),(4, .node [(2, .node [(3, .node [(5, .node [(6, .node [(7, .node [(8, .done)])])])]),(5, .node [(3, .node [(6, .node [(7, .node [(8, .done)])])]),(6, .node [(3, .node [(7, .node [(8, .done)])])])])]),(5, .node [(2, .node [(3, .node [(6, .node [(7, .node [(8, .done)])])]),(6, .node [(3, .node [(7, .node [(8, .done)])])])]),(6, .node [(2, .node [(3, .node [(7, .node [(8, .done)])])])])])])]),(2, .node [(0, .node [(3, .node [(4, .node [(5, .node [(6, .node [(7, .node [(8, .done)])])])])]),(4, .node [(3, .node [(5, .node [(6, .node [(7, .node [(8, .done)])])])]),(5, .node [(3, .node [(6, .node [(7, .node [(8, .done)])])]),(6, .node [(3, .node [(7, .node [(8, .done)])])])])])]),(3, .node [(0, .node [(4, .node [(5, .node [(6, .node [(7, .node [(8, .done)])])])])]),(4, .node [(0, .node [(5, .node [(6, .node [(7, .node [(8, .done)])])])]),(5, .node [(0, .node [(6, .node [(7, .node [(8, .done)])])]),(6, .node [(0, .node [(7, .node [(8, .done)])]),(7, .node [(0, .node [(8, .done)])])])])])]),(4, .node [(0, .node [(3, .node [(5, .node [(6, .node [(7, .node [(8, .done)])])])]),(5, .node [(3, .node [(6, .node [(7, .node [(8, .done)])])]),(6, .node [(3, .node [(7, .node [(8, .done)])])])])]),(3, .node [(0, .node [(5, .node [(6, .node [(7, .node [(8, .done)])])])]),(5, .node [(0, .node [(6, .node [(7, .node [(8, .done)])])]),(6, .node [(0, .node [(7, .node [(8, .done)])]),(7, .node [(0, .node [(8, .done)])])])])]),(5, .node [(0, .node [(3, .node [(6, .node [(7, .node [(8, .done)])])]),(6, .node [(3, .node [(7, .node [(8, .done)])])])]),(3, .node [(0, .node [(6, .node [(7, .node [(8, .done)])])]),(6, .node [(0, .node [(7, .node [(8, .done)])]),(7, .node [(0, .node [(8, .done)])])])]),(6, .node [(0, .node [(3, .node [(7, .node [(8, .done)])])]),(3, .node [(0, .node [(7, .node [(8, .done)])]),(7, .node [(0, .node [(8, .done)])])])])])])]),(4, .node [(0, .node [(2, .node [(3, .node [(5, .node [(6, .node [(7, .node [(8, .done)])])])]),(5, .node [(3, .node [(6, .node [(7, .node [(8, .done)])])]),(6, .node [(3, .node [(7, .node [(8, .done)])])])])]),(5, .node [(2, .node [(3, .node [(6, .node [(7, .node [(8, .done)])])]),(6, .node [(3, .node [(7, .node [(8, .done)])])])]),(6, .node [(2, .node [(3, .node [(7, .node [(8, .done)])])])])])]),(2, .node [(0, .node [(3, .node [(5, .node [(6, .node [(7, .node [(8, .done)])])])]),(5, .node [(3, .node [(6, .node [(7, .node [(8, .done)])])]),(6, .node [(3, .node [(7, .node [(8, .done)])])])])]),(3, .node [(0, .node [(5, .node [(6, .node [(7, .node [(8, .done)])])])]),(5, .node [(0, .node [(6, .node [(7, .node [(8, .done)])])]),(6, .node [(0, .node [(7, .node [(8, .done)])]),(7, .node [(0, .node [(8, .done)])])])])]),(5, .node [(0, .node [(3, .node [(6, .node [(7, .node [(8, .done)])])]),(6, .node [(3, .node [(7, .node [(8, .done)])])])]),(3, .node [(0, .node [(6, .node [(7, .node [(8, .done)])])]),(6, .node [(0, .node [(7, .node [(8, .done)])]),(7, .node [(0, .node [(8, .done)])])])]),(6, .node [(0, .node [(3, .node [(7, .node [(8, .done)])])]),(3, .node [(0, .node [(7, .node [(8, .done)])]),(7, .node [(0, .node [(8, .done)])])])])])]),(5, .node [(0, .node [(2, .node [(3, .node [(6, .node [(7, .node [(8, .done)])])]),(6, .node [(3, .node [(7, .node [(8, .done)])])])]),(6, .node [(2, .node [(3, .node [(7, .node [(8, .done)])])])])]),(2, .node [(0, .node [(3, .node [(6, .node [(7, .node [(8, .done)])])]),(6, .node [(3, .node [(7, .node [(8, .done)])])])]),(3, .node [(0, .node [(6, .node [(7, .node [(8, .done)])])]),(6, .node [(0, .node [(7, .node [(8, .done)])]),(7, .node [(0, .node [(8, .done)])])])]),(6, .node [(0, .node [(3, .node [(7, .node [(8, .done)])])]),(3, .node [(0, .node [(7, .node [(8, .done)])]),(7, .node [(0, .node [(8, .done)])])])])]),(6, .node [(0, .node [(2, .node [(3, .node [(7, .node [(8, .done)])])])]),(2, .node [(0, .node [(3, .node [(7, .node [(8, .done)])])]),(3, .node [(0, .node [(7, .node [(8, .done)])]),(7, .node [(0, .node [(8, .done)])])])])])])])])]
def xc:List (List Nat):=[[20,21,22,23,24,25,26],[19,21,22,23,24,25,26],[19,20,23,24,25],[19,20,23,24,25],[19,20,21,22],[19,20,21,22],[19,20,21,22],[19,20],[]]
theorem an.AF {P:Program} {N:Nat} {ops:Array Oper} {id:Nat} {fr:Fr} {H:Hp} {Q:Exit->Fr->Hp->Prop} (fr1:Fr) (H1:Hp) (h1:an P N id ops fr H fun e fr' H'=>e= .normal/\Wk fr' H' fr1 H1) (h2:Q .normal fr1 H1):an P N id ops fr H Q:=
 ⟨fun B w0 Mx w ρ a hs=>wp_mono (h1.out B w0 Mx w ρ a hs) (by
  rintro e a' w' ⟨ρ',fr',H',⟨rfl,hw⟩,aZ⟩;obtain ⟨ρ2,iW⟩:=hw _ _ _ _ _ _ _ aZ;exact ⟨ρ2,fr1,H1,h2,iW⟩)⟩
theorem yX {i j k:Nat} (h1:k≠i) (h2:k≠j):swI i j k=k:=by unfold swI;rw [if_neg h1,if_neg h2]
theorem xM (i j:Nat):swI i j i=j:=by unfold swI;rw [if_pos rfl]
theorem xL {i j:Nat} (h:j≠i):swI i j j=i:=by unfold swI;rw [if_neg h,if_pos rfl]
theorem Bs (i j n k m:Nat) (lo:Int):swV i j (n+2) (.agg [I lo, .sl 1 k 0 m])= .agg [I lo, .sl 1 (swI i j k) 0 m]:=rfl
theorem YG (sd:List PE) (sn:List Nat) (G:List PE) (j b:Nat) (g:PE) (cs:List Int) (hG:G.length<=900000) (hk:l5 G) (hj:G[j]?=some g) (hb:b+cs.length<=g.cs.length) (hl:g.cs.length<=1000000) (lN: -1000000<=g.lo/\g.lo<=1000000)
  (iA: ∀i,-1152921504606846976<=g.cs.getD i 0/\g.cs.getD i 0<=1152921504606846976) (rU: ∀i,-1152921504606846976<=cs.getD i 0/\cs.getD i 0<=1152921504606846976) {fr fr1:Fr} {H0:Hp} {K:AV->Fr->Hp->Prop} (dA:fr1.all (fun q=>s3 dF q.2)=true)
  (hw:Wk (frOf 0 [.str g.key,tpA (g.lo+2*(b:Int)) cs, .ptr 1000003 0]++lft fr) H0 (frOf 0 [.str g.key,tpA (g.lo+2*(b:Int)) cs, .ptr 1000003 0]++lft fr1) (br sd sn G))
  (hK:K (.tup []) fr1 (br sd sn (G.set j ⟨g.key,g.lo,iB g.cs b cs cs.length⟩))):
  fM Tryz.prog 144 [.str g.key,tpA (g.lo+2*(b:Int)) cs, .ptr 1000003 0] fr H0 K:=by
 have cO:j<G.length:=(List.getElem?_eq_some_iff.1 hj).1;have j9:max 1000001 (hnew (eX 0 G))=1000001:=by have:=s9 G 0;omega
 have nV:=Lu G 0 j g hk hj;rw [Nat.zero_add] at nV;refine fM.intro [] Tryz.func144 rfl rfl (by decide) (by simp [Tryz.ntmps144]) ?_;rw [Tryz.ntmps144];refine jt.wk hw ?_
 repeat' (first|omega|(try apply ag);simp only [go_sem,sevalprocAttr,j9,nV]|apply ah<;>(intro h_;(try simp only [h_]);revert h_)|apply ai|apply aj|apply ae|apply And.intro|with_reducible intro h_|trivial|simp only [go_sem,ak];omega)
 refine an.AF (lft fr1) (br sd sn (G.set j ⟨g.key,g.lo,iB g.cs b cs cs.length⟩)) ?_ ?_
 ·repeat' (first|omega|(first|apply ag|(refine an.aD (id:=3) (xf) (by decide+kernel) mixed ?_)|(refine an.intro (id:=3) [[15,16,17,18],[14,16,17,18],[14,15,17],[14,15,16],[14,15],[]] [[],[0],[0,1],[0,1,2],[0,1],[]] (by decide+kernel) mixed ?_)|(refine an.aB (id:=3) (xe) (by decide+kernel) mixed ?_)|(refine an.aD (id:=4) (xd) (by decide+kernel) mixed ?_)|(refine an.intro (id:=4) xc [[],[0],[0,1],[0,1],[0,1,2,3],[0,1,2,3],[0,1,2,3],[0,1],[]] (by decide+kernel) mixed ?_)|skip);simp only [go_sem,sevalprocAttr,j9,nV,↓reduceIte,reduceCtorEq,xf,xe,xd,xc]|apply ah<;>(intro h_;(try simp only [h_]);revert h_)|apply ai|apply aj|apply ae|apply And.intro|with_reducible intro h_|trivial|simp only [go_sem,ak];omega)
  all_goals refine ⟨aA.inline (YO sd sn G j b (j+10) g cs hG hj rfl hb hl lN iA rU ?_)⟩
  all_goals (repeat' (first|omega|(first|apply ag|(refine an.aD (id:=3) (xf) (by decide+kernel) mixed ?_)|(refine an.intro (id:=3) [[15,16,17,18],[14,16,17,18],[14,15,17],[14,15,16],[14,15],[]] [[],[0],[0,1],[0,1,2],[0,1],[]] (by decide+kernel) mixed ?_)|(refine an.aB (id:=3) (xe) (by decide+kernel) mixed ?_)|(refine an.aD (id:=4) (xd) (by decide+kernel) mixed ?_)|(refine an.intro (id:=4) xc [[],[0],[0,1],[0,1],[0,1,2,3],[0,1,2,3],[0,1,2,3],[0,1],[]] (by decide+kernel) mixed ?_)|skip);simp only [go_sem,sevalprocAttr,j9,nV,↓reduceIte,reduceCtorEq,xf,xe,xd,xc]|apply ah<;>(intro h_;(try simp only [h_]);revert h_)|apply ai|apply aj|apply ae|apply And.intro|with_reducible intro h_|trivial|simp only [go_sem,ak];omega))
  all_goals (
   refine Jr 2000000 999999 (by omega) (by omega) (by simpa using hG) (by simp only [go_sem,sevalprocAttr]) (by simp only [go_sem,sevalprocAttr]) (by simp only [go_sem,sevalprocAttr,List.length_set];rfl) ?_ (by simp only [go_sem,sevalprocAttr]) (by simp only [go_sem,sevalprocAttr]) (by simp only [go_sem,sevalprocAttr]) (fun k g' hg=>?_) dA (fun t ht=>?_)
   ·refine J8 G 0 j g hk hj ?_ (fun k lo n _ h2 _=>?_)
    ·rw [Bs,yX (by omega) (by omega),vO,Nat.zero_add]
    ·rw [Bs,yX (by omega) (by omega)]
   ·have bN:=(List.getElem?_eq_some_iff.1 hg).1;simp only [List.length_set] at bN;rw [yX (by omega) (by omega)];simp only [hget]
    repeat rw [if_neg (by omega)]
    exact dE hg
   ·simp only [fget]
    repeat rw [if_neg (by omega)])
 ·repeat' (first|omega|(try apply ag);simp only [go_sem,sevalprocAttr]|apply ah<;>(intro h_;(try simp only [h_]);revert h_)|apply ai|apply aj|apply ae|apply And.intro|with_reducible intro h_|trivial|simp only [go_sem,ak];omega)
  all_goals exact hK
theorem YN (sd:List PE) (sn:List Nat) (G:List PE) (j a b N:Nat) (dU:Int) (g:PE) (lo:Int) (cs:List Int) (hG:G.length<=900000) (hk:l5 G) (hj:G[j]?=some g) (P3:g.lo=dU+2*(a:Int)) (Ag:lo=dU+2*(b:Int)) (fC:a=0\/b=0)
  (Qn:a+g.cs.length<=N) (XJ:b+cs.length<=N) (hN:N=a+g.cs.length\/N=b+cs.length) (Ih:0<a\/g.cs.length+a<b+cs.length) (XU:N<=1000000) (lN: -1000000<=dU/\dU<=1000000)
  (iA: ∀i,-1152921504606846976<=g.cs.getD i 0/\g.cs.getD i 0<=1152921504606846976) (rU: ∀i,-1152921504606846976<=cs.getD i 0/\cs.getD i 0<=1152921504606846976) {fr fr1:Fr} {H0:Hp} {K:AV->Fr->Hp->Prop} (dA:fr1.all (fun q=>s3 dF q.2)=true)
  (hw:Wk (frOf 0 [.str g.key,tpA lo cs, .ptr 1000003 0]++lft fr) H0 (frOf 0 [.str g.key,tpA lo cs, .ptr 1000003 0]++lft fr1) (br sd sn G))
  (hK:K (.tup []) fr1 (br sd sn (G.set j ⟨g.key,dU,iB (dP a g.cs N) b cs cs.length⟩))):
  fM Tryz.prog 144 [.str g.key,tpA lo cs, .ptr 1000003 0] fr H0 K:=by
 have cO:j<G.length:=(List.getElem?_eq_some_iff.1 hj).1;have j9:max 1000001 (hnew (eX 0 G))=1000001:=by have:=s9 G 0;omega
 have nV:=Lu G 0 j g hk hj;rw [Nat.zero_add] at nV;refine fM.intro [] Tryz.func144 rfl rfl (by decide) (by simp [Tryz.ntmps144]) ?_;rw [Tryz.ntmps144];refine jt.wk hw ?_
 repeat' (first|omega|(try apply ag);simp only [go_sem,sevalprocAttr,j9,nV]|apply ah<;>(intro h_;(try simp only [h_]);revert h_)|apply ai|apply aj|apply ae|apply And.intro|with_reducible intro h_|trivial|simp only [go_sem,ak];omega)
 refine an.AF (lft fr1) (br sd sn (G.set j ⟨g.key,dU,iB (dP a g.cs N) b cs cs.length⟩)) ?_ ?_
 ·repeat' (first|omega|(first|apply ag|(refine an.aD (id:=3) (xf) (by decide+kernel) mixed ?_)|(refine an.intro (id:=3) [[15,16,17,18],[14,16,17,18],[14,15,17],[14,15,16],[14,15],[]] [[],[0],[0,1],[0,1,2],[0,1],[]] (by decide+kernel) mixed ?_)|(refine an.aB (id:=3) (xe) (by decide+kernel) mixed ?_)|(refine an.aD (id:=4) (xd) (by decide+kernel) mixed ?_)|(refine an.intro (id:=4) xc [[],[0],[0,1],[0,1],[0,1,2,3],[0,1,2,3],[0,1,2,3],[0,1],[]] (by decide+kernel) mixed ?_)|skip);simp only [go_sem,sevalprocAttr,j9,nV,↓reduceIte,reduceCtorEq,xf,xe,xd,xc]|apply ah<;>(intro h_;(try simp only [h_]);revert h_)|apply ai|apply aj|apply ae|apply And.intro|with_reducible intro h_|trivial|simp only [go_sem,ak];omega)
  all_goals refine ⟨aA.inline (Y1 sd sn G j a b N (j+10) dU g lo cs hG hj rfl P3 Ag fC Qn XJ hN Ih XU lN iA rU ?_)⟩
  all_goals (repeat' (first|omega|(first|apply ag|(refine an.aD (id:=3) (xf) (by decide+kernel) mixed ?_)|(refine an.intro (id:=3) [[15,16,17,18],[14,16,17,18],[14,15,17],[14,15,16],[14,15],[]] [[],[0],[0,1],[0,1,2],[0,1],[]] (by decide+kernel) mixed ?_)|(refine an.aB (id:=3) (xe) (by decide+kernel) mixed ?_)|(refine an.aD (id:=4) (xd) (by decide+kernel) mixed ?_)|(refine an.intro (id:=4) xc [[],[0],[0,1],[0,1],[0,1,2,3],[0,1,2,3],[0,1,2,3],[0,1],[]] (by decide+kernel) mixed ?_)|skip);simp only [go_sem,sevalprocAttr,j9,nV,↓reduceIte,reduceCtorEq,xf,xe,xd,xc]|apply ah<;>(intro h_;(try simp only [h_]);revert h_)|apply ai|apply aj|apply ae|apply And.intro|with_reducible intro h_|trivial|simp only [go_sem,ak];omega))
  all_goals (
   refine Jr 1000010 (j+10) (by omega) (by omega) (by simpa using hG) (by simp only [go_sem,sevalprocAttr]) (by simp only [go_sem,sevalprocAttr]) (by simp only [go_sem,sevalprocAttr,List.length_set];rfl) ?_ (by simp only [go_sem,sevalprocAttr]) (by simp only [go_sem,sevalprocAttr]) (by simp only [go_sem,sevalprocAttr]) (fun k g' hg=>?_) dA (fun t ht=>?_)
   ·refine J8 G 0 j g hk hj ?_ (fun k lo n _ h2 h3=>?_)
    ·rw [Bs,xM,vO,zn,Nat.zero_add]
    ·rw [Bs,yX (by omega) (by omega)]
   ·have bN:=(List.getElem?_eq_some_iff.1 hg).1;simp only [List.length_set] at bN;rw [List.getElem?_set] at hg;by_cases e:j=k
    ·subst e;rw [if_pos rfl,if_pos bN] at hg;cases hg;rw [xL (by omega)];rfl
    ·rw [if_neg e] at hg;rw [yX (by omega) (by omega)];simp only [hget]
     repeat rw [if_neg (by omega)]
     exact dE hg
   ·simp only [fget]
    repeat rw [if_neg (by omega)])
 ·repeat' (first|omega|(try apply ag);simp only [go_sem,sevalprocAttr]|apply ah<;>(intro h_;(try simp only [h_]);revert h_)|apply ai|apply aj|apply ae|apply And.intro|with_reducible intro h_|trivial|simp only [go_sem,ak];omega)
  all_goals exact hK
def Vd:Tr:= .node [(1, .node [(0, .node [(2, .node [(3, .node [(4, .node [(5, .done)])])]),(3, .node [(2, .node [(4, .node [(5, .done)])])])]),(2, .node [(0, .node [(3, .node [(4, .node [(5, .done)])])]),(3, .node [(0, .node [(4, .node [(5, .done)])]),(4, .node [(0, .node [(5, .done)])])])]),(3, .node [(0, .node [(2, .node [(4, .node [(5, .done)])])]),(2, .node [(0, .node [(4, .node [(5, .done)])]),(4, .node [(0, .node [(5, .done)])])])])])]
def Vc:Tr:= .node [(0, .node [(1, .node [(2, .node [(3, .node [(4, .node [(5, .done)])])]),(3, .node [(2, .node [(4, .node [(5, .done)])])])]),(2, .node [(1, .node [(3, .node [(4, .node [(5, .done)])])]),(3, .node [(1, .node [(4, .node [(5, .done)])]),(4, .node [(1, .node [(5, .done)])])])]),(3, .node [(1, .node [(2, .node [(4, .node [(5, .done)])])]),(2, .node [(1, .node [(4, .node [(5, .done)])]),(4, .node [(1, .node [(5, .done)])])])])]),(1, .node [(0, .node [(2, .node [(3, .node [(4, .node [(5, .done)])])]),(3, .node [(2, .node [(4, .node [(5, .done)])])])]),(2, .node [(0, .node [(3, .node [(4, .node [(5, .done)])])]),(3, .node [(0, .node [(4, .node [(5, .done)])]),(4, .node [(0, .node [(5, .done)])])])]),(3, .node [(0, .node [(2, .node [(4, .node [(5, .done)])])]),(2, .node [(0, .node [(4, .node [(5, .done)])]),(4, .node [(0, .node [(5, .done)])])])])]),(2, .node [(0, .node [(1, .node [(3, .node [(4, .node [(5, .done)])])]),(3, .node [(1, .node [(4, .node [(5, .done)])]),(4, .node [(1, .node [(5, .done)])])])]),(1, .node [(0, .node [(3, .node [(4, .node [(5, .done)])])]),(3, .node [(0, .node [(4, .node [(5, .done)])]),(4, .node [(0, .node [(5, .done)])])])]),(3, .node [(0, .node [(1, .node [(4, .node [(5, .done)])]),(4, .node [(1, .node [(5, .done)])])]),(1, .node [(0, .node [(4, .node [(5, .done)])]),(4, .node [(0, .node [(5, .done)])])]),(4, .node [(0, .node [(1, .node [(5, .done)])]),(1, .node [(0, .node [(5, .done)])])])])]),(3, .node [(0, .node [(1, .node [(2, .node [(4, .node [(5, .done)])])]),(2, .node [(1, .node [(4, .node [(5, .done)])]),(4, .node [(1, .node [(5, .done)])])])]),(1, .node [(0, .node [(2, .node [(4, .node [(5, .done)])])]),(2, .node [(0, .node [(4, .node [(5, .done)])]),(4, .node [(0, .node [(5, .done)])])])]),(2, .node [(0, .node [(1, .node [(4, .node [(5, .done)])]),(4, .node [(1, .node [(5, .done)])])]),(1, .node [(0, .node [(4, .node [(5, .done)])]),(4, .node [(0, .node [(5, .done)])])]),(4, .node [(0, .node [(1, .node [(5, .done)])]),(1, .node [(0, .node [(5, .done)])])])])])]
def Vb:Tr:= .node [(1, .node [(0, .node [(2, .node [(3, .node [(4, .node [(5, .node [(6, .node [(7, .node [(8, .done)])])])])]),(4, .node [(3, .node [(5, .node [(6, .node [(7, .node [(8, .done)])])])]),(5, .node [(3, .node [(6, .node [(7, .node [(8, .done)])])]),(6, .node [(3, .node [(7, .node [(8, .done)])])])])])]),(4, .node [(2, .node [(3, .node [(5, .node [(6, .node [(7, .node [(8, .done)])])])]),(5, .node [(3, .node [(6, .node [(7, .node [(8, .done)])])]),(6, .node [(3, .node [(7, .node [(8, .done)])])])])]),(5, .node [(2, .node [(3, .node [(6, .node [(7, .node [(8, .done)])])]),(6, .node [(3, .node [(7, .node [(8, .done)])])])]),(6, .node [(2, .node [(3, .node [(7, .node [(8, .done)])])])])])])]),(2, .node [(0, .node [(3, .node [(4, .node [(5, .node [(6, .node [(7, .node [(8, .done)])])])])]),(4, .node [(3, .node [(5, .node [(6, .node [(7, .node [(8, .done)])])])]),(5, .node [(3, .node [(6, .node [(7, .node [(8, .done)])])]),(6, .node [(3, .node [(7, .node [(8, .done)])])])])])]),(3, .node [(0, .node [(4, .node [(5, .node [(6, .node [(7, .node [(8, .done)])])])])]),(4, .node [(0, .node [(5, .node [(6, .node [(7, .node [(8, .done)])])])]),(5, .node [(0, .node [(6, .node [(7, .node [(8, .done)])])]),(6, .node [(0, .node [(7, .node [(8, .done)])]),(7, .node [(0, .node [(8, .done)])])])])])]),(4, .node [(0, .node [(3, .node [(5, .node [(6, .node [(7, .node [(8, .done)])])])]),(5, .node [(3, .node [(6, .node [(7, .node [(8, .done)])])]),(6, .node [(3, .node [(7, .node [(8, .done)])])])])]),(3, .node [(0, .node [(5, .node [(6, .node [(7, .node [(8, .done)])])])]),(5, .node [(0, .node [(6, .node [(7, .node [(8, .done)])])]),(6, .node [(0, .node [(7, .node [(8, .done)])]),(7, .node [(0, .node [(8, .done)])])])])]),(5, .node [(0, .node [(3, .node [(6, .node [(7, .node [(8, .done)])])]),(6, .node [(3, .node [(7, .node [(8, .done)])])])]),(3, .node [(0, .node [(6, .node [(7, .node [(8, .done)])])]),(6, .node [(0, .node [(7, .node [(8, .done)])]),(7, .node [(0, .node [(8, .done)])])])]),(6, .node [(0, .node [(3, .node [(7, .node [(8, .done)])])]),(3, .node [(0, .node [(7, .node [(8, .done)])]),(7, .node [(0, .node [(8, .done)])])])])])])]),(4, .node [(0, .node [(2, .node [(3, .node [(5, .node [(6, .node [(7, .node [(8, .done)])])])]),(5, .node [(3, .node [(6, .node [(7, .node [(8, .done)])])]),(6, .node [(3, .node [(7, .node [(8, .done)])])])])]),(5, .node [(2, .node [(3, .node [(6, .node [(7, .node [(8, .done)])])]),(6, .node [(3, .node [(7, .node [(8, .done)])])])]),(6, .node [(2, .node [(3, .node [(7, .node [(8, .done)])])])])])]),(2, .node [(0, .node [(3, .node [(5, .node [(6, .node [(7, .node [(8, .done)])])])]),(5, .node [(3, .node [(6, .node [(7, .node [(8, .done)])])]),(6, .node [(3, .node [(7, .node [(8, .done)])])])])]),(3, .node [(0, .node [(5, .node [(6, .node [(7, .node [(8, .done)])])])]),(5, .node [(0, .node [(6, .node [(7, .node [(8, .done)])])]),(6, .node [(0, .node [(7, .node [(8, .done)])]),(7, .node [(0, .node [(8, .done)])])])])]),(5, .node [(0, .node [(3, .node [(6, .node [(7, .node [(8, .done)])])]),(6, .node [(3, .node [(7, .node [(8, .done)])])])]),(3, .node [(0, .node [(6, .node [(7, .node [(8, .done)])])]),(6, .node [(0, .node [(7, .node [(8, .done)])]),(7, .node [(0, .node [(8, .done)])])])]),(6, .node [(0, .node [(3, .node [(7, .node [(8, .done)])])]),(3, .node [(0, .node [(7, .node [(8, .done)])]),(7, .node [(0, .node [(8, .done)])])])])])]),(5, .node [(0, .node [(2, .node [(3, .node [(6, .node [(7, .node [(8, .done)])])]),(6, .node [(3, .node [(7, .node [(8, .done)])])])]),(6, .node [(2, .node [(3, .node [(7, .node [(8, .done)])])])])]),(2, .node [(0, .node [(3, .node [(6, .node [(7, .node [(8, .done)])])]),(6, .node [(3, .node [(7, .node [(8, .done)])])])]),(3, .node [(0, .node [(6, .node [(7, .node [(8, .done)])])]),(6, .node [(0, .node [(7, .node [(8, .done)])]),(7, .node [(0, .node [(8, .done)])])])]),(6, .node [(0, .node [(3, .node [(7, .node [(8, .done)])])]),(3, .node [(0, .node [(7, .node [(8, .done)])]),(7, .node [(0, .node [(8, .done)])])])])]),(6, .node [(0, .node [(2, .node [(3, .node [(7, .node [(8, .done)])])])]),(2, .node [(0, .node [(3, .node [(7, .node [(8, .done)])])]),(3, .node [(0, .node [(7, .node [(8, .done)])]),(7, .node [(0, .node [(8, .done)])])])])])])])])]
def Va:List (List Nat):=[[20,21,22,23,24,25,26],[19,21,22,23,24,25,26],[19,20,23,24,25],[19,20,23,24,25],[19,20,21,22],[19,20,21,22],[19,20,21,22],[19,20],[]]
theorem YF (sd:List PE) (sn:List Nat) (G:List PE) (s:ByteArray) (lo:Int) (cs:List Int) (hG:G.length<900000) (hk:l5 G) (cD: ∀g∈G,g.key≠s) (hl:cs.length<=1000000) (yq:0<cs.length) {fr fr1:Fr} {H0:Hp} {K:AV->Fr->Hp->Prop} (dA:fr1.all (fun q=>s3 dF q.2)=true)
  (hw:Wk (frOf 0 [.str s,tpA lo cs, .ptr 1000003 0]++lft fr) H0 (frOf 0 [.str s,tpA lo cs, .ptr 1000003 0]++lft fr1) (br sd sn G))
  (hK:K (.tup []) fr1 (br sd sn (G++[⟨s,lo,cs⟩]))):
  fM Tryz.prog 144 [.str s,tpA lo cs, .ptr 1000003 0] fr H0 K:=by
 have j9:max 1000001 (hnew (eX 0 G))=1000001:=by have:=s9 G 0;omega
 have nV:=TI G 0 s cD;have cZ:cs.all (yca∘AV.int .i64)=true:=List.all_eq_true.2 fun _ _=>rfl;refine fM.intro [] Tryz.func144 rfl rfl (by decide) (by simp [Tryz.ntmps144]) ?_;rw [Tryz.ntmps144];refine jt.wk hw ?_
 repeat' (first|omega|(try apply ag);simp only [go_sem,sevalprocAttr,j9,nV]|apply ah<;>(intro h_;(try simp only [h_]);revert h_)|apply ai|apply aj|apply ae|apply And.intro|with_reducible intro h_|trivial|simp only [go_sem,ak];omega)
 refine an.AF (lft fr1) (br sd sn (G++[⟨s,lo,cs⟩])) ?_ ?_
 ·repeat' (first|omega|(first|apply ag|(refine an.aD (id:=3) (Vd) (by decide+kernel) mixed ?_)|(refine an.intro (id:=3) [[15,16,17,18],[14,16,17,18],[14,15,17],[14,15,16],[14,15],[]] [[],[0],[0,1],[0,1,2],[0,1],[]] (by decide+kernel) mixed ?_)|(refine an.aB (id:=3) (Vc) (by decide+kernel) mixed ?_)|(refine an.aD (id:=4) (Vb) (by decide+kernel) mixed ?_)|(refine an.intro (id:=4) Va [[],[0],[0,1],[0,1],[0,1,2,3],[0,1,2,3],[0,1,2,3],[0,1],[]] (by decide+kernel) mixed ?_)|skip);simp only [go_sem,sevalprocAttr,j9,nV,cZ,↓reduceIte,reduceCtorEq,Vd,Vc,Vb,Va]|apply ah<;>(intro h_;(try simp only [h_]);revert h_)|apply ai|apply aj|apply ae|apply And.intro|with_reducible intro h_|trivial|simp only [go_sem,ak];omega)
  all_goals (
   refine Jr 1000007 (G.length+10) (by omega) (by omega) (by simp;omega) (by simp only [go_sem,sevalprocAttr]) (by simp only [go_sem,sevalprocAttr]) (by simp only [go_sem,sevalprocAttr,List.length_append];rfl) ?_ (by simp only [go_sem,sevalprocAttr]) (by simp only [go_sem,sevalprocAttr]) (by simp only [go_sem,sevalprocAttr]) (fun k g' hg=>?_) dA (fun t ht=>?_)
   ·rw [List.map_append,GH G 0 (fun k lo n _ h2=>by rw [Bs,yX (by omega) (by omega)]),Q0,Nat.zero_add];simp only [List.map_cons,List.map_nil,Bs,xM]
   ·have bN:=(List.getElem?_eq_some_iff.1 hg).1;simp only [List.length_append,List.length_cons,List.length_nil] at bN;by_cases e:k=G.length
    ·subst e;rw [List.getElem?_append_right (Nat.le_refl _),Nat.sub_self] at hg;cases hg;rw [xL (by omega)];rfl
    ·rw [List.getElem?_append_left (by omega)] at hg;rw [yX (by omega) (by omega)];simp only [hget]
     repeat rw [if_neg (by omega)]
     exact dE hg
   ·simp only [fget]
    repeat rw [if_neg (by omega)])
 ·repeat' (first|omega|(try apply ag);simp only [go_sem,sevalprocAttr]|apply ah<;>(intro h_;(try simp only [h_]);revert h_)|apply ai|apply aj|apply ae|apply And.intro|with_reducible intro h_|trivial|simp only [go_sem,ak];omega)
  all_goals exact hK
theorem Gu (bt:Nat) (T:List Nat) (b:Bool):gF bt T (jL b)=gb bt T b:=by
 funext x;unfold gF kY gb
 split
 ·simp
 ·have h: ∀i,0<=(jL b).getD i 0:=fun i=>by
   cases b<;>(match i with
    |0=>decide
    |1=>decide
    |2=>decide
    |3=>decide
    |i+4=>simp [jL])
  have:=h (x-bt)
  omega
section
variable {m:List Int} {n:Nat} {P:List Nat} {ends:List Int} {c:Nat} {T:List Nat} (hp:aE m n) (he:s5 m n P ends) (hT:oX T ends.length) (hc:c<n) (bB:c∉P) (hw:ends.length<=90)
include hp he hT hc bB hw
theorem Ml (b:Bool):yQ ends.length (bA m ends c) (dx m ends c) (aP m ends c).length T (jL b):=by
 have E:=GC hp he hT hc bB fun _=>b;obtain ⟨f1,f2⟩:=y5e hp he hT hc bB fun _=>b;refine ⟨Dl _ _ _,Dl _ _ _,hT.len,hT.lt (by omega),by cases b<;>rfl,fun i=>?_,hw,?_,fun x hx=>?_,fun x hx=>⟨fun h=>?_,fun h=>?_⟩,fun x hx=>?_,fun k hk hg=>?_,fun k hk hg hs=>?_⟩
 ·cases b<;>(match i with
   |0=>decide
   |1=>decide
   |2=>decide
   |3=>decide
   |i+4=>simp [jL])
 ·have:=Ru hp he hc bB;omega
 ·rcases Int.lt_or_le ((bA m ends c).getD x 0) 0 with h|h
  ·have h1:=(y9 hp he hc bB hx).1 h;have h2:=GF hp he hc bB hx;unfold lg at h2;rw [h1] at h2;rw [h2];simp;omega
  ·obtain ⟨y,hy,e,_⟩:=Db hp he hc bB hx h;rw [e];omega
 ·have h1:fD (bY ends c) m x≠none:=fun e=>by have:=(y9 hp he hc bB hx).2 e;omega
  rw [Jp hp he hc bB hx,if_pos (by cases hq:fD (bY ends c) m x with
   |none=>exact absurd hq h1
   |some _=>rfl)]
 ·have h1:=(y9 hp he hc bB hx).1 h;rw [vT hp he hc bB hx h1]
  have:(bh (bY ends c) m x).length<(aP m ends c).length:=(sA hx h1).1
  omega
 ·have h1:gb ends.length T b x<ends.length+4:=E.nod.ar x hx;have h2:(kY ends.length T (jL b) x).toNat=gb ends.length T b x:=congrFun (Gu ends.length T b) x;have h3:0<=kY ends.length T (jL b) x:=by
   unfold kY
   split
   ·omega
   ·have: ∀i,0<=(jL b).getD i 0:=fun i=>by
     cases b<;>(match i with
      |0=>decide
      |1=>decide
      |2=>decide
      |3=>decide
      |i+4=>simp [jL])
    have:=this (x-ends.length)
    omega
  omega
 ·rw [Gu];exact f1 k hk hg
 ·rw [Gu] at hs⊢;exact f2 k hk hg hs
omit hw in
theorem N2 (b:Bool):pN (txN (gb ends.length T b) (fun x=>(bA m ends c).getD x 0) (fun x=>(dx m ends c).getD x 0) (ends.length+4) (aP m ends c).length (ends.length+4))=pS (dG m ends c T b):=by
 unfold pS dG;rw [List.map_map];congr 1
 conv=>lhs;rw [←List.map_id (txN _ _ _ _ _ _)]
 refine List.map_congr_left fun t ht=>?_;obtain ⟨j,hj,rfl⟩:=List.mem_iff_getElem.1 ht
 have:=DI hp he hT hc bB b j (by rw [zb] at hj;exact hj)
 rw [List.getD_eq_getElem?_getD,List.getElem?_eq_getElem hj,Option.getD_some] at this;simp only [Function.comp,id];omega
theorem TV (b:Bool):Fn Tryz.prog 176 [.agg [I ends.length,roI (bA m ends c),roI (dx m ends c),roI (aP m ends c)], .str (pS T), .agg ((jL b).map (AV.int .i64))]
  (.tup [.str (pS (dG m ends c T b)),I (c6 m ends c T b)]):=by
 have h:=y42 ends.length (bA m ends c) (dx m ends c) (aP m ends c) T (jL b) (Ml hp he hT hc bB hw b);rw [Gu] at h;have e:=N2 hp he hT hc bB b;unfold aO at h;rw [e] at h;exact h
end
end Go.Proofs.YtphjphpmfflfpaaGreatDoor
