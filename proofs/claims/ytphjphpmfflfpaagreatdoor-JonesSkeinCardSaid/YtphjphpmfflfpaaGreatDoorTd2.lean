/- Plain: the coefficients of a row of integers; the states of a stage, and their sum. -/
import Derived.Test.YtphjphpmfflfpaaGreatDoorZh
import Derived.Test.YtphjphpmfflfpaaGreatDoorTd1
namespace Go.Proofs.YtphjphpmfflfpaaGreatDoor
set_option linter.unusedVariables false
set_option linter.unusedSimpArgs false
set_option linter.unusedSectionVars false
def iv (lo:Int) (cs:List Int) (e:Int):Int:=if lo<=e/\(e-lo)% 2=0 then cs.getD ((e-lo)/2).toNat 0 else 0
theorem tC (lo:Int) (cs:List Int) (i:Nat):iv lo cs (lo+2*(i:Int))=cs.getD i 0:=by
 unfold iv;rw [if_pos (by omega),show ((lo+2*(i:Int)-lo)/2).toNat=i by omega]
theorem qj {lo:Int} {cs:List Int} {e:Int} (h:e<lo):iv lo cs e=0:=by unfold iv;rw [if_neg (by omega)]
theorem u9 {lo:Int} {cs:List Int} {e:Int} (h:(e-lo)% 2≠0):iv lo cs e=0:=by unfold iv;rw [if_neg (by omega)]
theorem O5 (lo:Int) (cs:List Int) (a e:Int):iv (lo+a) cs e=iv lo cs (e-a):=by
 unfold iv;rw [show e-(lo+a)=e-a-lo by omega];by_cases h:lo<=e-a/\(e-a-lo)% 2=0
 ·rw [if_pos h,if_pos ⟨by omega,h.2⟩]
 ·rw [if_neg h,if_neg fun g=>h ⟨by omega,g.2⟩]
theorem mE {cs:List Int} {i:Nat} (h:cs.length<=i):cs.getD i 0=0:=by simp [List.getD_eq_getElem?_getD,h]
theorem H9 (lo e:Int):(e-lo)% 2≠0\/e<lo\/ ∃i:Nat,e=lo+2*(i:Int):=by
 by_cases h1:(e-lo)% 2=0
 ·by_cases h2:e<lo
  ·exact .inr (.inl h2)
  ·exact .inr (.inr ⟨((e-lo)/2).toNat,by omega⟩)
 ·exact .inl h1
theorem Ur (lo:Int) (cs:List Int) (e:Int):iv (lo-2) (cB cs cs.length) e=c9 (iv lo cs) e:=by
 unfold c9;rcases H9 (lo-2) e with h|h|⟨i,rfl⟩
 ·rw [u9 h,u9 (by omega),u9 (by omega)];rfl
 ·rw [qj h,qj (by omega),qj (by omega)];rfl
 ·rw [tC,show lo-2+2*(i:Int)+2=lo+2*(i:Int) by omega,tC];have h3:iv lo cs (lo-2+2*(i:Int)-2)=if 2<=i then cs.getD (i-2) 0 else 0:=by
   split
   ·rw [show lo-2+2*(i:Int)-2=lo+2*((i-2:Nat):Int) by omega,tC]
   ·exact qj (by omega)
  rw [h3];by_cases hi:i<cs.length+2
  ·rw [yt _ _ _ hi];by_cases h4:i<cs.length
   ·rw [if_pos h4];by_cases h5:2<=i
    ·rw [if_pos ⟨h5,by omega⟩,if_pos h5]
    ·rw [if_neg (by omega),if_neg h5]
   ·rw [if_neg h4,mE (cs:=cs) (i:=i) (by omega)];by_cases h5:2<=i/\i-2<cs.length
    ·rw [if_pos h5,if_pos h5.1];rfl
    ·rw [if_neg h5];by_cases h6:2<=i
     ·rw [if_pos h6,mE (by omega)];rfl
     ·rw [if_neg h6];rfl
  ·rw [mE (by rw [wM];omega),mE (cs:=cs) (i:=i) (by omega),if_pos (by omega),mE (by omega)];rfl
theorem Hv (a:Nat) (p:List Int) {N i:Nat} (h:i<N):(cW a p N).getD i 0=if a<=i/\i-a<p.length then p.getD (i-a) 0 else 0:=by simp [cW,List.getD_eq_getElem?_getD,h]
theorem Uq (lo:Int) (a N:Nat) (p:List Int) (h:a+p.length<=N) (e:Int):iv lo (cW a p N) e=iv (lo+2*(a:Int)) p e:=by
 rcases H9 lo e with h1|h1|⟨i,rfl⟩
 ·rw [u9 h1,u9 (by omega)]
 ·rw [qj h1,qj (by omega)]
 ·rw [tC];by_cases h2:a<=i
  ·rw [show lo+2*(i:Int)=lo+2*(a:Int)+2*((i-a:Nat):Int) by omega,tC];by_cases h3:i<N
   ·rw [Hv _ _ h3];by_cases h4:i-a<p.length
    ·rw [if_pos ⟨h2,h4⟩]
    ·rw [if_neg fun g=>h4 g.2,mE (by omega)]
   ·rw [mE (by rw [wJ];omega),mE (by omega)]
  ·rw [qj (e:=lo+2*(i:Int)) (by omega),Hv _ _ (by omega),if_neg fun g=>h2 g.1]
theorem JI (lo:Int) (r:List Int) (b:Nat) (q:List Int) (h:b+q.length<=r.length) (e:Int):iv lo (gp r b q q.length) e=iv lo r e+iv (lo+2*(b:Int)) q e:=by
 rcases H9 lo e with h1|h1|⟨i,rfl⟩
 ·rw [u9 h1,u9 h1,u9 (by omega)];rfl
 ·rw [qj h1,qj h1,qj (by omega)];rfl
 ·rw [tC,tC];by_cases h3:i<r.length
  ·rw [zV _ _ _ _ _ h3];by_cases h2:b<=i
   ·rw [show lo+2*(i:Int)=lo+2*(b:Int)+2*((i-b:Nat):Int) by omega,tC];by_cases h4:i-b<q.length
    ·rw [if_pos ⟨h2,h4⟩]
    ·rw [if_neg fun g=>h4 g.2,mE (cs:=q) (by omega)]
   ·rw [qj (e:=lo+2*(i:Int)) (by omega),if_neg fun g=>h2 g.1]
  ·rw [mE (by rw [tJ];omega),mE (cs:=r) (by omega)];by_cases h2:b<=i
   ·rw [show lo+2*(i:Int)=lo+2*(b:Int)+2*((i-b:Nat):Int) by omega,tC,mE (by omega)];rfl
   ·rw [qj (e:=lo+2*(i:Int)) (by omega)];rfl
def mxN:List Int->Nat
 |[]=>0
 |c::l=>max c.natAbs (mxN l)
theorem zS {B:Nat}: ∀{l:List Int},mxN l<=B↔ ∀i,(l.getD i 0).natAbs<=B
 |[]=>by simp [mxN]
 |c::l=>by
  simp only [mxN,Nat.max_le,zS (l:=l)];constructor
  ·rintro ⟨h1,h2⟩ i
   match i with
   |0=>simpa using h1
   |i+1=>simpa using h2 i
  ·exact fun h=>⟨by simpa using h 0,fun i=>by simpa using h (i+1)⟩
theorem u5 (l:List Int) (i:Nat):(l.getD i 0).natAbs<=mxN l:=zS.1 (Nat.le_refl _) i
theorem Up (cs:List Int) (k:Nat):mxN (cB cs k)<=2*mxN cs:=zS.2 fun i=>by
 by_cases h:i<cs.length+2
 ·rw [yt _ _ _ h];have h1:=u5 cs i;have h2:=u5 cs (i-2)
  split<;>split<;>omega
 ·rw [mE (by rw [wM];omega)];simp
theorem JH (r:List Int) (b:Nat) (q:List Int) (k:Nat):mxN (gp r b q k)<=mxN r+mxN q:=zS.2 fun i=>by
 by_cases h:i<r.length
 ·rw [zV _ _ _ _ _ h];have h1:=u5 r i;have h2:=u5 q (i-b)
  split<;>omega
 ·rw [mE (by rw [tJ];omega)];simp
theorem Uo (a:Nat) (p:List Int) (N:Nat):mxN (cW a p N)<=mxN p:=zS.2 fun i=>by
 by_cases h:i<N
 ·rw [Hv _ _ h];have h2:=u5 p (i-a)
  split
  ·exact h2
  ·simp
 ·rw [mE (by rw [wJ];omega)];simp
def tsL:Nat->List Int->List Int
 |0,cs=>cs
 |j+1,cs=>cB (tsL j cs) (tsL j cs).length
theorem nT (cs:List Int): ∀j,(tsL j cs).length=cs.length+2*j
 |0=>rfl
 |j+1=>by simp only [tsL,wM,nT cs j];omega
theorem wm (cs:List Int): ∀j,mxN (tsL j cs)<=2^j*mxN cs
 |0=>by simp [tsL]
 |j+1=>by
  have h1:=Up (tsL j cs) (tsL j cs).length;have h2:=wm cs j;simp only [tsL];rw [Nat.pow_succ,Nat.mul_right_comm];omega
theorem Gc (lo:Int) (cs:List Int): ∀(j:Nat) (e:Int),iv (lo-2*(j:Int)) (tsL j cs) e=dmn j (iv lo cs) e
 |0,e=>by simp [tsL,dmn]
 |j+1,e=>by
  rw [show lo-2*((j+1:Nat):Int)=lo-2*(j:Int)-2 by omega];simp only [tsL,dmn];rw [Ur];exact yP (Gc lo cs j) e
def mb (g:PE) (lo:Int) (cs:List Int):PE:=
 ⟨g.key,min g.lo lo,gp (cW ((g.lo-min g.lo lo)/2).toNat g.cs (max (((g.lo-min g.lo lo)/2).toNat+g.cs.length) (((lo-min g.lo lo)/2).toNat+cs.length))) ((lo-min g.lo lo)/2).toNat cs cs.length⟩
theorem Gb {g:PE} {lo:Int} {cs:List Int} (a b N:Nat) (c6:Int) (Lm:g.lo=c6+2*(a:Int)) (Cn:lo=c6+2*(b:Int)) (fh:a=0\/b=0) (hN:N=max (a+g.cs.length) (b+cs.length)):mb g lo cs=⟨g.key,c6,gp (cW a g.cs N) b cs cs.length⟩:=by
 have h1:min g.lo lo=c6:=by omega
 unfold mb;rw [h1,show ((g.lo-c6)/2).toNat=a by omega,show ((lo-c6)/2).toNat=b by omega,←hN]
theorem Ga {g:PE} {lo:Int} {cs:List Int} (h:(g.lo-lo)% 2=0): ∃(a b:Nat) (c6:Int),g.lo=c6+2*(a:Int)/\lo=c6+2*(b:Int)/\(a=0\/b=0):=by
 rcases Int.lt_or_le g.lo lo with h1|h1
 ·exact ⟨0,((lo-g.lo)/2).toNat,g.lo,by omega,by omega, .inl rfl⟩
 ·exact ⟨((g.lo-lo)/2).toNat,0,lo,by omega,by omega, .inr rfl⟩
theorem Xa (p:List Int):cW 0 p p.length=p:=by
 refine List.ext_getElem? fun i=>?_;by_cases h:i<p.length<;>simp [cW,h]
theorem JG {g:PE} {lo:Int} {cs:List Int} (h:(g.lo-lo)% 2=0) (e:Int):iv (mb g lo cs).lo (mb g lo cs).cs e=iv g.lo g.cs e+iv lo cs e:=by
 obtain ⟨a,b,c6,h1,h2,h3⟩:=Ga (cs:=cs) h;rw [Gb a b _ c6 h1 h2 h3 rfl];dsimp only;rw [JI _ _ _ _ (by rw [wJ];omega),Uq _ _ _ _ (by omega),←h1,←h2]
theorem Rc (g:PE) (lo:Int) (cs:List Int):mxN (mb g lo cs).cs<=mxN g.cs+mxN cs:=by
 unfold mb;dsimp only;exact Nat.le_trans (JH _ _ _ _) (Nat.add_le_add_right (Uo _ _ _) _)
theorem Rb {g:PE} {lo:Int} {cs:List Int} (h:(g.lo-lo)% 2=0) {R:Int} (h1: -R<=g.lo/\g.lo+2*(g.cs.length:Int)<=R) (h2: -R<=lo/\lo+2*(cs.length:Int)<=R): -R<=(mb g lo cs).lo/\(mb g lo cs).lo+2*((mb g lo cs).cs.length:Int)<=R/\((mb g lo cs).lo-lo)% 2=0:=by
 obtain ⟨a,b,c6,q1,q2,q3⟩:=Ga (cs:=cs) h;rw [Gb a b _ c6 q1 q2 q3 rfl];dsimp only;rw [tJ,wJ];omega
def updE:List PE->ByteArray->Int->List Int->List PE
 |[],s,lo,cs=>[⟨s,lo,cs⟩]
 |g::G,s,lo,cs=>if g.key=s then mb g lo cs::G else g::updE G s lo cs
theorem O4: ∀(G:List PE) {s:ByteArray} {lo:Int} {cs:List Int},(∀g∈G,g.key≠s)->updE G s lo cs=G++[⟨s,lo,cs⟩]
 |[],_,_,_,_=>rfl
 |g::G,s,lo,cs,h=>by
  simp only [updE,List.cons_append];rw [if_neg (h g (List.mem_cons_self ..)),O4 G fun g hg=>h g (List.mem_cons_of_mem _ hg)]
theorem O3: ∀(G:List PE) {j:Nat} {g:PE} {lo:Int} {cs:List Int},kE G->G[j]?=some g->updE G g.key lo cs=G.set j (mb g lo cs)
 |[],_,_,_,_,_,h=>by simp at h
 |a::G,0,g,lo,cs,hk,h=>by
  simp only [List.getElem?_cons_zero,Option.some.injEq] at h;subst h;simp only [updE,if_true,List.set_cons_zero]
 |a::G,j+1,g,lo,cs,hk,h=>by
  simp only [List.getElem?_cons_succ] at h;unfold kE at hk;rw [List.map_cons,List.nodup_cons] at hk;have aw:a.key≠g.key:=fun e=>hk.1 (e▸List.mem_map.2 ⟨g,List.mem_of_getElem? h,rfl⟩);simp only [updE,if_neg aw,List.set_cons_succ];rw [O3 G hk.2 h]
theorem H8: ∀(G:List PE) (s:ByteArray) (lo:Int) (cs:List Int),(updE G s lo cs).map (·.key)=G.map (·.key)\/((∀g∈G,g.key≠s)/\(updE G s lo cs).map (·.key)=G.map (·.key)++[s])
 |[],_,_,_=> .inr ⟨by simp,rfl⟩
 |g::G,s,lo,cs=>by
  simp only [updE];by_cases h:g.key=s
  ·left;rw [if_pos h];rfl
  ·rw [if_neg h];rcases H8 G s lo cs with h1|⟨h1,h2⟩
   ·left;rw [List.map_cons,h1];rfl
   ·right;refine ⟨fun a ha=>?_,by rw [List.map_cons,h2];rfl⟩;rcases List.mem_cons.1 ha with rfl|ha
    ·exact h
    ·exact h1 a ha
theorem Un {G:List PE} {s:ByteArray} {lo:Int} {cs:List Int} (h:kE G):kE (updE G s lo cs):=by
 unfold kE at*;rcases H8 G s lo cs with h1|⟨h1,h2⟩
 ·rw [h1];exact h
 ·rw [h2,List.nodup_append];refine ⟨h,by simp,fun x hx y hy e=>?_⟩;obtain ⟨g,hg,rfl⟩:=List.mem_map.1 hx;simp only [List.mem_cons,List.not_mem_nil,or_false] at hy;exact h1 g hg (e.trans hy)
theorem Hu (G:List PE) (s:ByteArray) (lo:Int) (cs:List Int):(updE G s lo cs).length<=G.length+1/\1<=(updE G s lo cs).length/\G.length<=(updE G s lo cs).length:=by
 rcases H8 G s lo cs with h1|⟨h1,h2⟩
 ·have:=congrArg List.length h1
  simp only [List.length_map] at this;refine ⟨by omega,?_,by omega⟩;cases G with
  |nil=>simp [updE]
  |cons g G=>simp at this;omega
 ·have:=congrArg List.length h2
  simp only [List.length_map,List.length_append,List.length_cons,List.length_nil] at this;omega
theorem Ht: ∀(G:List PE) {s:ByteArray} {lo:Int} {cs:List Int} {x:PE},x∈updE G s lo cs->x∈G\/x=⟨s,lo,cs⟩\/ ∃g∈G,g.key=s/\x=mb g lo cs
 |[],s,lo,cs,x,h=>by simp only [updE,List.mem_cons,List.not_mem_nil,or_false] at h;exact .inr (.inl h)
 |g::G,s,lo,cs,x,h=>by
  simp only [updE] at h
  split at h
  ·rename_i hk
   rcases List.mem_cons.1 h with rfl|h
   ·exact .inr (.inr ⟨g,List.mem_cons_self ..,hk,rfl⟩)
   ·exact .inl (List.mem_cons_of_mem _ h)
  ·rcases List.mem_cons.1 h with rfl|h
   ·exact .inl (List.mem_cons_self ..)
   ·rcases Ht G h with h|h|⟨g',h1,h2⟩
    ·exact .inl (List.mem_cons_of_mem _ h)
    ·exact .inr (.inl h)
    ·exact .inr (.inr ⟨g',List.mem_cons_of_mem _ h1,h2⟩)
def sumG (F:PE->Int):List PE->Int
 |[]=>0
 |g::G=>F g+sumG F G
def dB (F:PE->Nat):List PE->Nat
 |[]=>0
 |g::G=>F g+dB F G
theorem N2 {F:PE->Int}: ∀(G:List PE) {s:ByteArray} {lo:Int} {cs:List Int},(∀g∈G,g.key=s->F (mb g lo cs)=F g+F ⟨s,lo,cs⟩)->sumG F (updE G s lo cs)=sumG F G+F ⟨s,lo,cs⟩
 |[],_,_,_,_=>by simp [updE,sumG]
 |g::G,s,lo,cs,h=>by
  simp only [updE,sumG];by_cases hk:g.key=s
  ·rw [if_pos hk,sumG,h g (List.mem_cons_self ..) hk];omega
  ·rw [if_neg hk,sumG,N2 G fun g hg=>h g (List.mem_cons_of_mem _ hg)];omega
theorem N1 {F:PE->Nat}: ∀(G:List PE) {s:ByteArray} {lo:Int} {cs:List Int},(∀g∈G,g.key=s->F (mb g lo cs)<=F g+F ⟨s,lo,cs⟩)->dB F (updE G s lo cs)<=dB F G+F ⟨s,lo,cs⟩
 |[],_,_,_,_=>by simp [updE,dB]
 |g::G,s,lo,cs,h=>by
  simp only [updE,dB];by_cases hk:g.key=s
  ·rw [if_pos hk,dB];have:=h g (List.mem_cons_self ..) hk;omega
  ·rw [if_neg hk,dB];have:=N1 G fun g hg=>h g (List.mem_cons_of_mem _ hg);omega
theorem Hs {F:PE->Nat}: ∀{G:List PE} {g:PE},g∈G->F g<=dB F G
 |a::G,g,h=>by
  simp only [dB];rcases List.mem_cons.1 h with rfl|h
  ·omega
  ·have:=Hs (F:=F) h;omega
def dK (s:ByteArray):List Nat:=s.data.toList.map fun b=>b.toNat-97
theorem zP {T:List Nat} (h: ∀i∈T,i<100):dK (pS T)=T:=by
 unfold dK;rw [GV,List.map_map]
 conv=>rhs;rw [←List.map_id T]
 refine List.map_congr_left fun i hi=>?_
 have:=h i hi
 simp only [Function.comp,UInt8.toNat_ofNat',id];omega
theorem nA.lt {T:List Nat} {E:Nat} (h:nA T E) (hE:E<=100): ∀i∈T,i<100:=fun i hi=>by
 obtain ⟨x,hx,rfl⟩:=List.mem_iff_getElem.1 hi
 have:=h.bP x (by rw [←h.len];exact hx)
 rw [List.getD_eq_getElem?_getD,List.getElem?_eq_getElem hx] at this;simp only [Option.getD_some] at this;omega
structure qf (E:Nat) (par R:Int) (G:List PE):Prop where
 nd:kE G
 ok: ∀g∈G,g.key=pS (dK g.key)/\nA (dK g.key) E
 pr: ∀g∈G,(g.lo-par)% 2=0
 rg: ∀g∈G,-R<=g.lo/\g.lo+2*(g.cs.length:Int)<=R
 ne: ∀g∈G,0<g.cs.length
theorem qf.nil (E:Nat) (par R:Int):qf E par R []:=⟨by simp [kE],by simp,by simp,by simp,by simp⟩
theorem qf.cI {E:Nat} {par R:Int} {G:List PE} (h:qf E par R G) {T:List Nat} {lo:Int} {cs:List Int} (hE:E<=100) (hT:nA T E) (hp:(lo-par)% 2=0) (hr: -R<=lo/\lo+2*(cs.length:Int)<=R) (h0:0<cs.length):qf E par R (updE G (pS T) lo cs):=by
 refine ⟨Un h.nd,fun x hx=>?_,fun x hx=>?_,fun x hx=>?_,fun x hx=>?_⟩<;>rcases Ht G hx with hx|rfl|⟨g,hg,hk,rfl⟩
 ·exact h.ok x hx
 ·dsimp only;rw [zP (hT.lt hE)];exact ⟨rfl,hT⟩
 ·exact h.ok g hg
 ·exact h.pr x hx
 ·exact hp
 ·have h1:=h.pr g hg
  have:=(Rb (cs:=cs) (by omega) (h.rg g hg) hr).2.2
  omega
 ·exact h.rg x hx
 ·exact hr
 ·have h1:=h.pr g hg
  have:=Rb (cs:=cs) (lo:=lo) (by omega) (h.rg g hg) hr
  exact ⟨this.1,this.2.1⟩
 ·exact h.ne x hx
 ·exact h0
 ·have h1:=h.ne g hg;unfold mb;dsimp only;rw [tJ,wJ];omega
def oH (m:List Int) (r:List Nat) (ends:List Int) (e:Int) (g:PE):Int:=finR m r ends (dK g.key) (iv g.lo g.cs) e
def kd (m:List Int) (r:List Nat) (ends:List Int) (g:PE):Nat:=mxN g.cs*nmR m r ends (dK g.key)
theorem Nl (m:List Int) (r:List Nat) (ends:List Int) (e:Int) {G:List PE} {par:Int} (h: ∀g∈G,(g.lo-par)% 2=0) {s:ByteArray} {lo:Int} {cs:List Int} (hp:(lo-par)% 2=0):sumG (oH m r ends e) (updE G s lo cs)=sumG (oH m r ends e) G+oH m r ends e ⟨s,lo,cs⟩:=by
 refine N2 G fun g hg hk=>?_;have h1:=h g hg;unfold oH;dsimp only;rw [sY m r ends _ (JG (lo:=lo) (cs:=cs) (by omega)),Hw,show (mb g lo cs).key=g.key from rfl,hk]
theorem Nk (m:List Int) (r:List Nat) (ends:List Int) (G:List PE) (s:ByteArray) (lo:Int) (cs:List Int):dB (kd m r ends) (updE G s lo cs)<=dB (kd m r ends) G+kd m r ends ⟨s,lo,cs⟩:=by
 refine N1 G fun g hg hk=>?_;unfold kd;dsimp only;rw [show (mb g lo cs).key=g.key from rfl,hk,←Nat.add_mul];exact Nat.mul_le_mul_right _ (Rc g lo cs)
def qN (m:List Int) (c:Nat) (sp:Nat) (ends:List Int) (G:List PE) (g:PE):List PE:=
 updE (updE G (pS (cO m ends c (dK g.key) false)) (g.lo+1-2*((b7 m ends c (dK g.key) false-sp:Nat):Int)) (tsL (b7 m ends c (dK g.key) false-sp) g.cs))
  (pS (cO m ends c (dK g.key) true)) (g.lo-1-2*((b7 m ends c (dK g.key) true-sp:Nat):Int)) (tsL (b7 m ends c (dK g.key) true-sp) g.cs)
section
variable {m:List Int} {n:Nat} {P:List Nat} {ends:List Int} {c:Nat} (hp:bd m n) (he:qT m n P ends) (hc:c<n) (aV:c∉P) (hw:ends.length<=90) (mi:(aG m ends c).length<=90)
include hp he hc aV hw mi
theorem JF {g:PE} {par R:Int} (hk:nA (dK g.key) ends.length) (Ca:(g.lo-par)% 2=0) (tg: -R<=g.lo/\g.lo+2*(g.cs.length:Int)<=R) (h0:0<g.cs.length) {G:List PE} (sp:Nat) (h:qf (aG m ends c).length (par+1) (R+200) G):qf (aG m ends c).length (par+1) (R+200) (qN m c sp ends G g):=by
 have q:=fun b=>(tN hp he hk hc aV (fun _=>b)).1;have l:=zT m ends c (dK g.key);have l0:=l false;have l1:=l true;unfold qN;refine (h.cI (by omega) (q false) (by omega) ?_ (by rw [nT];omega)).cI (by omega) (q true) (by omega) ?_ (by rw [nT];omega)
 ·rw [nT];omega
 ·rw [nT];omega
theorem JE {g:PE} {par R:Int} (hk:nA (dK g.key) ends.length) (Ca:(g.lo-par)% 2=0) {G:List PE} (r:List Nat) (tg: -R<=g.lo/\g.lo+2*(g.cs.length:Int)<=R) (h0:0<g.cs.length) (h:qf (aG m ends c).length (par+1) (R+200) G) (e:Int):
  sumG (oH m r (aG m ends c) e) (qN m c (spN r) ends G g)=sumG (oH m r (aG m ends c) e) G+oH m (c::r) ends e g:=by
 have q:=fun b=>(tN hp he hk hc aV (fun _=>b)).1;have l:=zT m ends c (dK g.key);have l0:=l false;have l1:=l true;have h1:=h.cI (T:=cO m ends c (dK g.key) false) (lo:=g.lo+1-2*((b7 m ends c (dK g.key) false-spN r:Nat):Int)) (cs:=tsL (b7 m ends c (dK g.key) false-spN r) g.cs) (by omega) (q false) (by omega) (by rw [nT];omega) (by rw [nT];omega);unfold qN
 rw [Nl m r _ e h1.pr (by omega),Nl m r _ e h.pr (by omega),Int.add_assoc];congr 1;unfold oH;dsimp only;rw [zP ((q false).lt (by omega)),zP ((q true).lt (by omega))];simp only [finR];rw [show g.lo-1=g.lo+ -1 by omega];rw [sY m r _ _ (Gc (g.lo+1) g.cs _),sY m r _ _ (Gc (g.lo+ -1) g.cs _)];rw [sY m r _ _ (qZ (O5 g.lo g.cs 1) _),sY m r _ _ (qZ (O5 g.lo g.cs (-1)) _)]
theorem JD {g:PE} (hk:nA (dK g.key) ends.length) (G:List PE) (r:List Nat) (sp:Nat):
  dB (kd m r (aG m ends c)) (qN m c sp ends G g)<=dB (kd m r (aG m ends c)) G+kd m (c::r) ends g:=by
 have q:=fun b=>(tN hp he hk hc aV (fun _=>b)).1;unfold qN;have h1:=Nk m r (aG m ends c) (updE G (pS (cO m ends c (dK g.key) false)) (g.lo+1-2*((b7 m ends c (dK g.key) false-sp:Nat):Int)) (tsL (b7 m ends c (dK g.key) false-sp) g.cs)) (pS (cO m ends c (dK g.key) true)) (g.lo-1-2*((b7 m ends c (dK g.key) true-sp:Nat):Int)) (tsL (b7 m ends c (dK g.key) true-sp) g.cs)
 have h2:=Nk m r (aG m ends c) G (pS (cO m ends c (dK g.key) false)) (g.lo+1-2*((b7 m ends c (dK g.key) false-sp:Nat):Int)) (tsL (b7 m ends c (dK g.key) false-sp) g.cs)
 have key: ∀(b:Bool) (lo:Int),kd m r (aG m ends c) ⟨pS (cO m ends c (dK g.key) b),lo,tsL (b7 m ends c (dK g.key) b-sp) g.cs⟩<=mxN g.cs*(2^b7 m ends c (dK g.key) b*nmR m r (aG m ends c) (cO m ends c (dK g.key) b)):=fun b lo=>by
  unfold kd;dsimp only;rw [zP ((q b).lt (by omega)),←Nat.mul_assoc];refine Nat.mul_le_mul_right _ (Nat.le_trans (wm _ _) ?_);rw [Nat.mul_comm];exact Nat.mul_le_mul_left _ (Nat.pow_le_pow_right (by omega) (by omega))
 have k0:=key false (g.lo+1-2*((b7 m ends c (dK g.key) false-sp:Nat):Int));have k1:=key true (g.lo-1-2*((b7 m ends c (dK g.key) true-sp:Nat):Int));have e:kd m (c::r) ends g=mxN g.cs*(2^b7 m ends c (dK g.key) false*nmR m r (aG m ends c) (cO m ends c (dK g.key) false))+mxN g.cs*(2^b7 m ends c (dK g.key) true*nmR m r (aG m ends c) (cO m ends c (dK g.key) true)):=by
  unfold kd;simp only [nmR];rw [Nat.mul_add]
 omega
end
theorem Um (m:List Int) (c sp:Nat) (ends:List Int) (G:List PE) (g:PE):(qN m c sp ends G g).length<=G.length+2/\1<=(qN m c sp ends G g).length:=by
 unfold qN;have h1:=Hu G (pS (cO m ends c (dK g.key) false)) (g.lo+1-2*((b7 m ends c (dK g.key) false-sp:Nat):Int)) (tsL (b7 m ends c (dK g.key) false-sp) g.cs)
 have h2:=Hu (updE G (pS (cO m ends c (dK g.key) false)) (g.lo+1-2*((b7 m ends c (dK g.key) false-sp:Nat):Int)) (tsL (b7 m ends c (dK g.key) false-sp) g.cs)) (pS (cO m ends c (dK g.key) true)) (g.lo-1-2*((b7 m ends c (dK g.key) true-sp:Nat):Int)) (tsL (b7 m ends c (dK g.key) true-sp) g.cs);omega
end Go.Proofs.YtphjphpmfflfpaaGreatDoor
