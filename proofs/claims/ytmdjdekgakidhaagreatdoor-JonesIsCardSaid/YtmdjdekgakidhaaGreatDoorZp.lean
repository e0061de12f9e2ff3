/- Plain: the coefficients of a row of integers; the states of a stage, and their sum. -/
import Derived.Test.YtmdjdekgakidhaaGreatDoorZm
import Derived.Test.YtmdjdekgakidhaaGreatDoorZo
namespace Go.Proofs.YtmdjdekgakidhaaGreatDoor
set_option linter.unusedVariables false
set_option linter.unusedSimpArgs false
set_option linter.unusedSectionVars false
def gY (lo:Int) (cs:List Int) (e:Int):Int:=if lo<=e/\(e-lo)% 2=0 then cs.getD ((e-lo)/2).toNat 0 else 0
theorem tA (lo:Int) (cs:List Int) (i:Nat):gY lo cs (lo+2*(i:Int))=cs.getD i 0:=by
 unfold gY;rw [if_pos (by omega),show ((lo+2*(i:Int)-lo)/2).toNat=i by omega]
theorem pW {lo:Int} {cs:List Int} {e:Int} (h:e<lo):gY lo cs e=0:=by unfold gY;rw [if_neg (by omega)]
theorem u6 {lo:Int} {cs:List Int} {e:Int} (h:(e-lo)% 2≠0):gY lo cs e=0:=by unfold gY;rw [if_neg (by omega)]
theorem PG (lo:Int) (cs:List Int) (a e:Int):gY (lo+a) cs e=gY lo cs (e-a):=by
 unfold gY;rw [show e-(lo+a)=e-a-lo by omega];by_cases h:lo<=e-a/\(e-a-lo)% 2=0
 ·rw [if_pos h,if_pos ⟨by omega,h.2⟩]
 ·rw [if_neg h,if_neg fun g=>h ⟨by omega,g.2⟩]
theorem mc {cs:List Int} {i:Nat} (h:cs.length<=i):cs.getD i 0=0:=by simp [zzB,h]
theorem H8 (lo e:Int):(e-lo)% 2≠0\/e<lo\/ ∃i:Nat,e=lo+2*(i:Int):=by
 by_cases h1:(e-lo)% 2=0
 ·by_cases h2:e<lo
  ·exact .inr (.inl h2)
  ·exact .inr (.inr ⟨((e-lo)/2).toNat,by omega⟩)
 ·exact .inl h1
theorem JO (lo:Int) (cs:List Int) (e:Int):gY (lo-2) (cY cs cs.length) e=dw (gY lo cs) e:=by
 unfold dw;rcases H8 (lo-2) e with h|h|⟨i,rfl⟩
 ·rw [u6 h,u6 (by omega),u6 (by omega)];rfl
 ·rw [pW h,pW (by omega),pW (by omega)];rfl
 ·rw [tA,show lo-2+2*(i:Int)+2=lo+2*(i:Int) by omega,tA];have h3:gY lo cs (lo-2+2*(i:Int)-2)=if 2<=i then cs.getD (i-2) 0 else 0:=by
   split
   ·rw [show lo-2+2*(i:Int)-2=lo+2*((i-2:Nat):Int) by omega,tA]
   ·exact pW (by omega)
  rw [h3];by_cases hi:i<cs.length+2
  ·rw [yg _ _ _ hi];by_cases h4:i<cs.length
   ·rw [if_pos h4];by_cases h5:2<=i
    ·rw [if_pos ⟨h5,by omega⟩,if_pos h5]
    ·rw [if_neg (by omega),if_neg h5]
   ·rw [if_neg h4,mc (cs:=cs) (i:=i) (by omega)];by_cases h5:2<=i/\i-2<cs.length
    ·rw [if_pos h5,if_pos h5.1];rfl
    ·rw [if_neg h5];by_cases h6:2<=i
     ·rw [if_pos h6,mc (by omega)];rfl
     ·rw [if_neg h6];rfl
  ·rw [mc (by rw [wA];omega),mc (cs:=cs) (i:=i) (by omega),if_pos (by omega),mc (by omega)];rfl
theorem G3 (a:Nat) (p:List Int) {N i:Nat} (h:i<N):(dm a p N).getD i 0=if a<=i/\i-a<p.length then p.getD (i-a) 0 else 0:=by simp [dm,zzB,h]
theorem JN (lo:Int) (a N:Nat) (p:List Int) (h:a+p.length<=N) (e:Int):gY lo (dm a p N) e=gY (lo+2*(a:Int)) p e:=by
 rcases H8 lo e with h1|h1|⟨i,rfl⟩
 ·rw [u6 h1,u6 (by omega)]
 ·rw [pW h1,pW (by omega)]
 ·rw [tA];by_cases h2:a<=i
  ·rw [show lo+2*(i:Int)=lo+2*(a:Int)+2*((i-a:Nat):Int) by omega,tA];by_cases h3:i<N
   ·rw [G3 _ _ h3];by_cases h4:i-a<p.length
    ·rw [if_pos ⟨h2,h4⟩]
    ·rw [if_neg fun g=>h4 g.2,mc (by omega)]
   ·rw [mc (by rw [wz];omega),mc (by omega)]
  ·rw [pW (e:=lo+2*(i:Int)) (by omega),G3 _ _ (by omega),if_neg fun g=>h2 g.1]
theorem IH (lo:Int) (r:List Int) (b:Nat) (q:List Int) (h:b+q.length<=r.length) (e:Int):gY lo (gp r b q q.length) e=gY lo r e+gY (lo+2*(b:Int)) q e:=by
 rcases H8 lo e with h1|h1|⟨i,rfl⟩
 ·rw [u6 h1,u6 h1,u6 (by omega)];rfl
 ·rw [pW h1,pW h1,pW (by omega)];rfl
 ·rw [tA,tA];by_cases h3:i<r.length
  ·rw [zB _ _ _ _ _ h3];by_cases h2:b<=i
   ·rw [show lo+2*(i:Int)=lo+2*(b:Int)+2*((i-b:Nat):Int) by omega,tA];by_cases h4:i-b<q.length
    ·rw [if_pos ⟨h2,h4⟩]
    ·rw [if_neg fun g=>h4 g.2,mc (cs:=q) (by omega)]
   ·rw [pW (e:=lo+2*(i:Int)) (by omega),if_neg fun g=>h2 g.1]
  ·rw [mc (by rw [tq];omega),mc (cs:=r) (by omega)];by_cases h2:b<=i
   ·rw [show lo+2*(i:Int)=lo+2*(b:Int)+2*((i-b:Nat):Int) by omega,tA,mc (by omega)];rfl
   ·rw [pW (e:=lo+2*(i:Int)) (by omega)];rfl
def mxN:List Int->Nat
 |[]=>0
 |c::l=>max c.natAbs (mxN l)
theorem zA {B:Nat}: ∀{l:List Int},mxN l<=B↔ ∀i,(l.getD i 0).natAbs<=B
 |[]=>by simp [mxN]
 |c::l=>by
  simp only [mxN,Nat.max_le,zA (l:=l)];constructor
  ·rintro ⟨h1,h2⟩ i
   match i with
   |0=>simpa using h1
   |i+1=>simpa using h2 i
  ·exact fun h=>⟨by simpa using h 0,fun i=>by simpa using h (i+1)⟩
theorem uU (l:List Int) (i:Nat):(l.getD i 0).natAbs<=mxN l:=zA.1 (zzA _) i
theorem JM (cs:List Int) (k:Nat):mxN (cY cs k)<=2*mxN cs:=zA.2 fun i=>by
 by_cases h:i<cs.length+2
 ·rw [yg _ _ _ h];have h1:=uU cs i;have h2:=uU cs (i-2)
  split<;>split<;>omega
 ·rw [mc (by rw [wA];omega)];simp
theorem IG (r:List Int) (b:Nat) (q:List Int) (k:Nat):mxN (gp r b q k)<=mxN r+mxN q:=zA.2 fun i=>by
 by_cases h:i<r.length
 ·rw [zB _ _ _ _ _ h];have h1:=uU r i;have h2:=uU q (i-b)
  split<;>omega
 ·rw [mc (by rw [tq];omega)];simp
theorem JL (a:Nat) (p:List Int) (N:Nat):mxN (dm a p N)<=mxN p:=zA.2 fun i=>by
 by_cases h:i<N
 ·rw [G3 _ _ h];have h2:=uU p (i-a)
  split
  ·exact h2
  ·simp
 ·rw [mc (by rw [wz];omega)];simp
def tsL:Nat->List Int->List Int
 |0,cs=>cs
 |j+1,cs=>cY (tsL j cs) (tsL j cs).length
theorem nR (cs:List Int): ∀j,(tsL j cs).length=cs.length+2*j
 |0=>rfl
 |j+1=>by simp only [tsL,wA,nR cs j];omega
theorem wg (cs:List Int): ∀j,mxN (tsL j cs)<=2^j*mxN cs
 |0=>by simp [tsL]
 |j+1=>by
  have h1:=JM (tsL j cs) (tsL j cs).length;have h2:=wg cs j;simp only [tsL];rw [Nat.pow_succ,Nat.mul_right_comm];omega
theorem FR (lo:Int) (cs:List Int): ∀(j:Nat) (e:Int),gY (lo-2*(j:Int)) (tsL j cs) e=dmn j (gY lo cs) e
 |0,e=>by simp [tsL,dmn]
 |j+1,e=>by
  rw [show lo-2*((j+1:Nat):Int)=lo-2*(j:Int)-2 by omega];simp only [tsL,dmn];rw [JO];exact yC (FR lo cs j) e
def lQ (g:PE) (lo:Int) (cs:List Int):PE:=
 ⟨g.key,min g.lo lo,gp (dm ((g.lo-min g.lo lo)/2).toNat g.cs (max (((g.lo-min g.lo lo)/2).toNat+g.cs.length) (((lo-min g.lo lo)/2).toNat+cs.length))) ((lo-min g.lo lo)/2).toNat cs cs.length⟩
theorem FQ {g:PE} {lo:Int} {cs:List Int} (a b N:Nat) (dt:Int) (Cd:g.lo=dt+2*(a:Int)) (w5:lo=dt+2*(b:Int)) (fy:a=0\/b=0) (hN:N=max (a+g.cs.length) (b+cs.length)):lQ g lo cs=⟨g.key,dt,gp (dm a g.cs N) b cs cs.length⟩:=by
 have h1:min g.lo lo=dt:=by omega
 unfold lQ;rw [h1,show ((g.lo-dt)/2).toNat=a by omega,show ((lo-dt)/2).toNat=b by omega,←hN]
theorem FP {g:PE} {lo:Int} {cs:List Int} (h:(g.lo-lo)% 2=0): ∃(a b:Nat) (dt:Int),g.lo=dt+2*(a:Int)/\lo=dt+2*(b:Int)/\(a=0\/b=0):=by
 rcases Int.lt_or_le g.lo lo with h1|h1
 ·exact ⟨0,((lo-g.lo)/2).toNat,g.lo,by omega,by omega, .inl rfl⟩
 ·exact ⟨((g.lo-lo)/2).toNat,0,lo,by omega,by omega, .inr rfl⟩
theorem WJ (p:List Int):dm 0 p p.length=p:=by
 refine List.ext_getElem? fun i=>?_;by_cases h:i<p.length<;>simp [dm,h]
theorem IF {g:PE} {lo:Int} {cs:List Int} (h:(g.lo-lo)% 2=0) (e:Int):gY (lQ g lo cs).lo (lQ g lo cs).cs e=gY g.lo g.cs e+gY lo cs e:=by
 obtain ⟨a,b,dt,h1,h2,h3⟩:=FP (cs:=cs) h;rw [FQ a b _ dt h1 h2 h3 rfl];dsimp only;rw [IH _ _ _ _ (by rw [wz];omega),JN _ _ _ _ (by omega),←h1,←h2]
theorem Rz (g:PE) (lo:Int) (cs:List Int):mxN (lQ g lo cs).cs<=mxN g.cs+mxN cs:=by
 unfold lQ;dsimp only;exact Nat.le_trans (IG _ _ _ _) (Nat.add_le_add_right (JL _ _ _) _)
theorem Ry {g:PE} {lo:Int} {cs:List Int} (h:(g.lo-lo)% 2=0) {R:Int} (h1: -R<=g.lo/\g.lo+2*(g.cs.length:Int)<=R) (h2: -R<=lo/\lo+2*(cs.length:Int)<=R): -R<=(lQ g lo cs).lo/\(lQ g lo cs).lo+2*((lQ g lo cs).cs.length:Int)<=R/\((lQ g lo cs).lo-lo)% 2=0:=by
 obtain ⟨a,b,dt,q1,q2,q3⟩:=FP (cs:=cs) h;rw [FQ a b _ dt q1 q2 q3 rfl];dsimp only;rw [tq,wz];omega
def updE:List PE->ByteArray->Int->List Int->List PE
 |[],s,lo,cs=>[⟨s,lo,cs⟩]
 |g::G,s,lo,cs=>if g.key=s then lQ g lo cs::G else g::updE G s lo cs
theorem PF: ∀(G:List PE) {s:ByteArray} {lo:Int} {cs:List Int},(∀g∈G,g.key≠s)->updE G s lo cs=G++[⟨s,lo,cs⟩]
 |[],_,_,_,_=>rfl
 |g::G,s,lo,cs,h=>by
  simp only [updE,List.cons_append];rw [if_neg (h g (zzD ..)),PF G fun g hg=>h g (zzE _ hg)]
theorem PD: ∀(G:List PE) {j:Nat} {g:PE} {lo:Int} {cs:List Int},jX G->G[j]?=some g->updE G g.key lo cs=G.set j (lQ g lo cs)
 |[],_,_,_,_,_,h=>by simp at h
 |a::G,0,g,lo,cs,hk,h=>by
  simp only [List.getElem?_cons_zero,Option.some.injEq] at h;subst h;simp only [updE,if_true,List.set_cons_zero]
 |a::G,j+1,g,lo,cs,hk,h=>by
  simp only [List.getElem?_cons_succ] at h;unfold jX at hk;rw [List.map_cons,List.nodup_cons] at hk;have av:a.key≠g.key:=fun e=>hk.1 (e▸List.mem_map.2 ⟨g,List.mem_of_getElem? h,rfl⟩);simp only [updE,if_neg av,List.set_cons_succ];rw [PD G hk.2 h]
theorem HQ: ∀(G:List PE) (s:ByteArray) (lo:Int) (cs:List Int),(updE G s lo cs).map (·.key)=G.map (·.key)\/((∀g∈G,g.key≠s)/\(updE G s lo cs).map (·.key)=G.map (·.key)++[s])
 |[],_,_,_=> .inr ⟨by simp,rfl⟩
 |g::G,s,lo,cs=>by
  simp only [updE];by_cases h:g.key=s
  ·left;rw [if_pos h];rfl
  ·rw [if_neg h];rcases HQ G s lo cs with h1|⟨h1,h2⟩
   ·left;rw [List.map_cons,h1];rfl
   ·right;refine ⟨fun a ha=>?_,by rw [List.map_cons,h2];rfl⟩;rcases List.mem_cons.1 ha with rfl|ha
    ·exact h
    ·exact h1 a ha
theorem JK {G:List PE} {s:ByteArray} {lo:Int} {cs:List Int} (h:jX G):jX (updE G s lo cs):=by
 unfold jX at*;rcases HQ G s lo cs with h1|⟨h1,h2⟩
 ·rw [h1];exact h
 ·rw [h2,List.nodup_append];refine ⟨h,by simp,fun x hx y hy e=>?_⟩;obtain ⟨g,hg,rfl⟩:=List.mem_map.1 hx;simp only [List.mem_cons,zzH,or_false] at hy;exact h1 g hg (e.trans hy)
theorem G2 (G:List PE) (s:ByteArray) (lo:Int) (cs:List Int):(updE G s lo cs).length<=G.length+1/\1<=(updE G s lo cs).length/\G.length<=(updE G s lo cs).length:=by
 rcases HQ G s lo cs with h1|⟨h1,h2⟩
 ·have:=congrArg List.length h1
  simp only [List.length_map] at this;refine ⟨by omega,?_,by omega⟩;cases G with
  |nil=>simp [updE]
  |cons g G=>simp at this;omega
 ·have:=congrArg List.length h2
  simp only [List.length_map,zzF,zzG,List.length_nil] at this;omega
theorem GZ: ∀(G:List PE) {s:ByteArray} {lo:Int} {cs:List Int} {x:PE},x∈updE G s lo cs->x∈G\/x=⟨s,lo,cs⟩\/ ∃g∈G,g.key=s/\x=lQ g lo cs
 |[],s,lo,cs,x,h=>by simp only [updE,List.mem_cons,zzH,or_false] at h;exact .inr (.inl h)
 |g::G,s,lo,cs,x,h=>by
  simp only [updE] at h
  split at h
  ·rename_i hk
   rcases List.mem_cons.1 h with rfl|h
   ·exact .inr (.inr ⟨g,zzD ..,hk,rfl⟩)
   ·exact .inl (zzE _ h)
  ·rcases List.mem_cons.1 h with rfl|h
   ·exact .inl (zzD ..)
   ·rcases GZ G h with h|h|⟨g',h1,h2⟩
    ·exact .inl (zzE _ h)
    ·exact .inr (.inl h)
    ·exact .inr (.inr ⟨g',zzE _ h1,h2⟩)
def sumG (F:PE->Int):List PE->Int
 |[]=>0
 |g::G=>F g+sumG F G
def dG (F:PE->Nat):List PE->Nat
 |[]=>0
 |g::G=>F g+dG F G
theorem Ow {F:PE->Int}: ∀(G:List PE) {s:ByteArray} {lo:Int} {cs:List Int},(∀g∈G,g.key=s->F (lQ g lo cs)=F g+F ⟨s,lo,cs⟩)->sumG F (updE G s lo cs)=sumG F G+F ⟨s,lo,cs⟩
 |[],_,_,_,_=>by simp [updE,sumG]
 |g::G,s,lo,cs,h=>by
  simp only [updE,sumG];by_cases hk:g.key=s
  ·rw [if_pos hk,sumG,h g (zzD ..) hk];omega
  ·rw [if_neg hk,sumG,Ow G fun g hg=>h g (zzE _ hg)];omega
theorem Ov {F:PE->Nat}: ∀(G:List PE) {s:ByteArray} {lo:Int} {cs:List Int},(∀g∈G,g.key=s->F (lQ g lo cs)<=F g+F ⟨s,lo,cs⟩)->dG F (updE G s lo cs)<=dG F G+F ⟨s,lo,cs⟩
 |[],_,_,_,_=>by simp [updE,dG]
 |g::G,s,lo,cs,h=>by
  simp only [updE,dG];by_cases hk:g.key=s
  ·rw [if_pos hk,dG];have:=h g (zzD ..) hk;omega
  ·rw [if_neg hk,dG];have:=Ov G fun g hg=>h g (zzE _ hg);omega
theorem GY {F:PE->Nat}: ∀{G:List PE} {g:PE},g∈G->F g<=dG F G
 |a::G,g,h=>by
  simp only [dG];rcases List.mem_cons.1 h with rfl|h
  ·omega
  ·have:=GY (F:=F) h;omega
def dK (s:ByteArray):List Nat:=s.data.toList.map fun b=>b.toNat-97
theorem zm {T:List Nat} (h: ∀i∈T,i<100):dK (pS T)=T:=by
 unfold dK;rw [Gu,List.map_map]
 conv=>rhs;rw [←List.map_id T]
 refine List.map_congr_left fun i hi=>?_
 have:=h i hi
 simp only [Function.comp,UInt8.toNat_ofNat',id];omega
theorem nr.lt {T:List Nat} {E:Nat} (h:nr T E) (hE:E<=100): ∀i∈T,i<100:=fun i hi=>by
 obtain ⟨x,hx,rfl⟩:=List.mem_iff_getElem.1 hi
 have:=h.cR x (by rw [←h.len];exact hx)
 rw [zzB,zzI hx] at this;simp only [Option.getD_some] at this;omega
structure oe (E:Nat) (par R:Int) (G:List PE):Prop where
 nd:jX G
 ok: ∀g∈G,g.key=pS (dK g.key)/\nr (dK g.key) E
 pr: ∀g∈G,(g.lo-par)% 2=0
 rg: ∀g∈G,-R<=g.lo/\g.lo+2*(g.cs.length:Int)<=R
 ne: ∀g∈G,0<g.cs.length
theorem oe.nil (E:Nat) (par R:Int):oe E par R []:=⟨by simp [jX],by simp,by simp,by simp,by simp⟩
theorem oe.db {E:Nat} {par R:Int} {G:List PE} (h:oe E par R G) {T:List Nat} {lo:Int} {cs:List Int} (hE:E<=100) (hT:nr T E) (hp:(lo-par)% 2=0) (hr: -R<=lo/\lo+2*(cs.length:Int)<=R) (h0:0<cs.length):oe E par R (updE G (pS T) lo cs):=by
 refine ⟨JK h.nd,fun x hx=>?_,fun x hx=>?_,fun x hx=>?_,fun x hx=>?_⟩<;>rcases GZ G hx with hx|rfl|⟨g,hg,hk,rfl⟩
 ·exact h.ok x hx
 ·dsimp only;rw [zm (hT.lt hE)];exact ⟨rfl,hT⟩
 ·exact h.ok g hg
 ·exact h.pr x hx
 ·exact hp
 ·have h1:=h.pr g hg
  have:=(Ry (cs:=cs) (by omega) (h.rg g hg) hr).2.2
  omega
 ·exact h.rg x hx
 ·exact hr
 ·have h1:=h.pr g hg
  have:=Ry (cs:=cs) (lo:=lo) (by omega) (h.rg g hg) hr
  exact ⟨this.1,this.2.1⟩
 ·exact h.ne x hx
 ·exact h0
 ·have h1:=h.ne g hg;unfold lQ;dsimp only;rw [tq,wz];omega
def oq (m:List Int) (r:List Nat) (ends:List Int) (e:Int) (g:PE):Int:=finR m r ends (dK g.key) (gY g.lo g.cs) e
def jN (m:List Int) (r:List Nat) (ends:List Int) (g:PE):Nat:=mxN g.cs*nmR m r ends (dK g.key)
theorem Nc (m:List Int) (r:List Nat) (ends:List Int) (e:Int) {G:List PE} {par:Int} (h: ∀g∈G,(g.lo-par)% 2=0) {s:ByteArray} {lo:Int} {cs:List Int} (hp:(lo-par)% 2=0):sumG (oq m r ends e) (updE G s lo cs)=sumG (oq m r ends e) G+oq m r ends e ⟨s,lo,cs⟩:=by
 refine Ow G fun g hg hk=>?_;have h1:=h g hg;unfold oq;dsimp only;rw [sS m r ends _ (IF (lo:=lo) (cs:=cs) (by omega)),G4,show (lQ g lo cs).key=g.key from rfl,hk]
theorem Nb (m:List Int) (r:List Nat) (ends:List Int) (G:List PE) (s:ByteArray) (lo:Int) (cs:List Int):dG (jN m r ends) (updE G s lo cs)<=dG (jN m r ends) G+jN m r ends ⟨s,lo,cs⟩:=by
 refine Ov G fun g hg hk=>?_;unfold jN;dsimp only;rw [show (lQ g lo cs).key=g.key from rfl,hk,←Nat.add_mul];exact Nat.mul_le_mul_right _ (Rz g lo cs)
def pK (m:List Int) (c:Nat) (sp:Nat) (ends:List Int) (G:List PE) (g:PE):List PE:=
 updE (updE G (pS (df m ends c (dK g.key) false)) (g.lo+1-2*((ct m ends c (dK g.key) false-sp:Nat):Int)) (tsL (ct m ends c (dK g.key) false-sp) g.cs))
  (pS (df m ends c (dK g.key) true)) (g.lo-1-2*((ct m ends c (dK g.key) true-sp:Nat):Int)) (tsL (ct m ends c (dK g.key) true-sp) g.cs)
section
variable {m:List Int} {n:Nat} {P:List Nat} {ends:List Int} {c:Nat} (hp:bD m n) (he:qH m n P ends) (hc:c<n) (aT:c∉P) (hw:ends.length<=90) (oz:(aE m ends c).length<=90)
include hp he hc aT hw oz
theorem IE {g:PE} {par R:Int} (hk:nr (dK g.key) ends.length) (BN:(g.lo-par)% 2=0) (mS: -R<=g.lo/\g.lo+2*(g.cs.length:Int)<=R) (h0:0<g.cs.length) {G:List PE} (sp:Nat) (h:oe (aE m ends c).length (par+1) (R+200) G):oe (aE m ends c).length (par+1) (R+200) (pK m c sp ends G g):=by
 have q:=fun b=>(tC hp he hk hc aT (fun _=>b)).1;have l:=zD m ends c (dK g.key);have l0:=l false;have l1:=l true;unfold pK;refine (h.db (by omega) (q false) (by omega) ?_ (by rw [nR];omega)).db (by omega) (q true) (by omega) ?_ (by rw [nR];omega)
 ·rw [nR];omega
 ·rw [nR];omega
theorem ID {g:PE} {par R:Int} (hk:nr (dK g.key) ends.length) (BN:(g.lo-par)% 2=0) {G:List PE} (r:List Nat) (mS: -R<=g.lo/\g.lo+2*(g.cs.length:Int)<=R) (h0:0<g.cs.length) (h:oe (aE m ends c).length (par+1) (R+200) G) (e:Int):
  sumG (oq m r (aE m ends c) e) (pK m c (spN r) ends G g)=sumG (oq m r (aE m ends c) e) G+oq m (c::r) ends e g:=by
 have q:=fun b=>(tC hp he hk hc aT (fun _=>b)).1;have l:=zD m ends c (dK g.key);have l0:=l false;have l1:=l true;have h1:=h.db (T:=df m ends c (dK g.key) false) (lo:=g.lo+1-2*((ct m ends c (dK g.key) false-spN r:Nat):Int)) (cs:=tsL (ct m ends c (dK g.key) false-spN r) g.cs) (by omega) (q false) (by omega) (by rw [nR];omega) (by rw [nR];omega);unfold pK
 rw [Nc m r _ e h1.pr (by omega),Nc m r _ e h.pr (by omega),Int.add_assoc];congr 1;unfold oq;dsimp only;rw [zm ((q false).lt (by omega)),zm ((q true).lt (by omega))];simp only [finR];rw [show g.lo-1=g.lo+ -1 by omega];rw [sS m r _ _ (FR (g.lo+1) g.cs _),sS m r _ _ (FR (g.lo+ -1) g.cs _)];rw [sS m r _ _ (qN (PG g.lo g.cs 1) _),sS m r _ _ (qN (PG g.lo g.cs (-1)) _)]
theorem Jh {g:PE} (hk:nr (dK g.key) ends.length) (G:List PE) (r:List Nat) (sp:Nat):
  dG (jN m r (aE m ends c)) (pK m c sp ends G g)<=dG (jN m r (aE m ends c)) G+jN m (c::r) ends g:=by
 have q:=fun b=>(tC hp he hk hc aT (fun _=>b)).1;unfold pK;have h1:=Nb m r (aE m ends c) (updE G (pS (df m ends c (dK g.key) false)) (g.lo+1-2*((ct m ends c (dK g.key) false-sp:Nat):Int)) (tsL (ct m ends c (dK g.key) false-sp) g.cs)) (pS (df m ends c (dK g.key) true)) (g.lo-1-2*((ct m ends c (dK g.key) true-sp:Nat):Int)) (tsL (ct m ends c (dK g.key) true-sp) g.cs)
 have h2:=Nb m r (aE m ends c) G (pS (df m ends c (dK g.key) false)) (g.lo+1-2*((ct m ends c (dK g.key) false-sp:Nat):Int)) (tsL (ct m ends c (dK g.key) false-sp) g.cs)
 have key: ∀(b:Bool) (lo:Int),jN m r (aE m ends c) ⟨pS (df m ends c (dK g.key) b),lo,tsL (ct m ends c (dK g.key) b-sp) g.cs⟩<=mxN g.cs*(2^ct m ends c (dK g.key) b*nmR m r (aE m ends c) (df m ends c (dK g.key) b)):=fun b lo=>by
  unfold jN;dsimp only;rw [zm ((q b).lt (by omega)),←Nat.mul_assoc];refine Nat.mul_le_mul_right _ (Nat.le_trans (wg _ _) ?_);rw [Nat.mul_comm];exact Nat.mul_le_mul_left _ (Nat.pow_le_pow_right (by omega) (by omega))
 have k0:=key false (g.lo+1-2*((ct m ends c (dK g.key) false-sp:Nat):Int));have k1:=key true (g.lo-1-2*((ct m ends c (dK g.key) true-sp:Nat):Int));have e:jN m (c::r) ends g=mxN g.cs*(2^ct m ends c (dK g.key) false*nmR m r (aE m ends c) (df m ends c (dK g.key) false))+mxN g.cs*(2^ct m ends c (dK g.key) true*nmR m r (aE m ends c) (df m ends c (dK g.key) true)):=by
  unfold jN;simp only [nmR];rw [Nat.mul_add]
 omega
end
theorem JJ (m:List Int) (c sp:Nat) (ends:List Int) (G:List PE) (g:PE):(pK m c sp ends G g).length<=G.length+2/\1<=(pK m c sp ends G g).length:=by
 unfold pK;have h1:=G2 G (pS (df m ends c (dK g.key) false)) (g.lo+1-2*((ct m ends c (dK g.key) false-sp:Nat):Int)) (tsL (ct m ends c (dK g.key) false-sp) g.cs)
 have h2:=G2 (updE G (pS (df m ends c (dK g.key) false)) (g.lo+1-2*((ct m ends c (dK g.key) false-sp:Nat):Int)) (tsL (ct m ends c (dK g.key) false-sp) g.cs)) (pS (df m ends c (dK g.key) true)) (g.lo-1-2*((ct m ends c (dK g.key) true-sp:Nat):Int)) (tsL (ct m ends c (dK g.key) true-sp) g.cs);omega
open Go Go.RowKit
set_option maxRecDepth 100000
set_option maxHeartbeats 8000000
def uT:Tr:= .node [(1, .node [(0, .node [(2,trD [3,4,5]),(3,trD [2,4,5])]),(2, .node [(0,trD [3,4,5]),(3, .node [(0,trD [4,5]),(4,trD [0,5])])]),(3, .node [(0,trD [2,4,5]),(2, .node [(0,trD [4,5]),(4,trD [0,5])])])])]
def uS:Tr:= .node [(0, .node [(1, .node [(2,trD [3,4,5]),(3,trD [2,4,5])]),(2, .node [(1,trD [3,4,5]),(3, .node [(1,trD [4,5]),(4,trD [1,5])])]),(3, .node [(1,trD [2,4,5]),(2, .node [(1,trD [4,5]),(4,trD [1,5])])])]),(1, .node [(0, .node [(2,trD [3,4,5]),(3,trD [2,4,5])]),(2, .node [(0,trD [3,4,5]),(3, .node [(0,trD [4,5]),(4,trD [0,5])])]),(3, .node [(0,trD [2,4,5]),(2, .node [(0,trD [4,5]),(4,trD [0,5])])])]),(2, .node [(0, .node [(1,trD [3,4,5]),(3, .node [(1,trD [4,5]),(4,trD [1,5])])]),(1, .node [(0,trD [3,4,5]),(3, .node [(0,trD [4,5]),(4,trD [0,5])])]),(3, .node [(0, .node [(1,trD [4,5]),(4,trD [1,5])]),(1, .node [(0,trD [4,5]),(4,trD [0,5])]),(4, .node [(0,trD [1,5]),(1,trD [0,5])])])]),(3, .node [(0, .node [(1,trD [2,4,5]),(2, .node [(1,trD [4,5]),(4,trD [1,5])])]),(1, .node [(0,trD [2,4,5]),(2, .node [(0,trD [4,5]),(4,trD [0,5])])]),(2, .node [(0, .node [(1,trD [4,5]),(4,trD [1,5])]),(1, .node [(0,trD [4,5]),(4,trD [0,5])]),(4, .node [(0,trD [1,5]),(1,trD [0,5])])])])]
def uR:Tr:= .node [(1, .node [(0, .node [(2, .node [(3,trD [4,5,6,7,8]),(4, .node [(3,trD [5,6,7,8]),(5, .node [(3,trD [6,7,8]),(6,trD [3,7,8])])])]),(4, .node [(2, .node [(3,trD [5,6,7,8]),(5, .node [(3,trD [6,7,8]),(6,trD [3,7,8])])]),(5, .node [(2, .node [(3,trD [6,7,8]),(6,trD [3,7,8])]),(6,trD [2,3,7,8])])])]),(2, .node [(0, .node [(3,trD [4,5,6,7,8]),(4, .node [(3,trD [5,6,7,8]),(5, .node [(3,trD [6,7,8]),(6,trD [3,7,8])])])]),(3, .node [(0,trD [4,5,6,7,8]),(4, .node [(0,trD [5,6,7,8]),(5, .node [(0,trD [6,7,8]),(6, .node [(0,trD [7,8]),(7,trD [0,8])])])])]),(4, .node [(0, .node [(3,trD [5,6,7,8]),(5, .node [(3,trD [6,7,8]),(6,trD [3,7,8])])]),(3, .node [(0,trD [5,6,7,8]),(5, .node [(0,trD [6,7,8]),(6, .node [(0,trD [7,8]),(7,trD [0,8])])])]),(5, .node [(0, .node [(3,trD [6,7,8]),(6,trD [3,7,8])]),(3, .node [(0,trD [6,7,8]),(6, .node [(0,trD [7,8]),(7,trD [0,8])])]),(6, .node [(0,trD [3,7,8]),(3, .node [(0,trD [7,8]),(7,trD [0,8])])])])])]),(4, .node [(0, .node [(2, .node [(3,trD [5,6,7,8]),(5, .node [(3,trD [6,7,8]),(6,trD [3,7,8])])]),(5, .node [(2, .node [(3,trD [6,7,8]),(6,trD [3,7,8])]),(6,trD [2,3,7,8])])]),(2, .node [(0, .node [(3,trD [5,6,7,8]),(5, .node [(3,trD [6,7,8]),(6,trD [3,7,8])])]),(3, .node [(0,trD [5,6,7,8]),(5, .node [(0,trD [6,7,8]),(6, .node [(0,trD [7,8]),(7,trD [0,8])])])]),(5, .node [(0, .node [(3,trD [6,7,8]),(6,trD [3,7,8])]),(3, .node [(0,trD [6,7,8]),(6, .node [(0,trD [7,8]),(7,trD [0,8])])]),(6, .node [(0,trD [3,7,8]),(3, .node [(0,trD [7,8]),(7,trD [0,8])])])])]),(5, .node [(0, .node [(2, .node [(3,trD [6,7,8]),(6,trD [3,7,8])]),(6,trD [2,3,7,8])]),(2, .node [(0, .node [(3,trD [6,7,8]),(6,trD [3,7,8])]),(3, .node [(0,trD [6,7,8]),(6, .node [(0,trD [7,8]),(7,trD [0,8])])]),(6, .node [(0,trD [3,7,8]),(3, .node [(0,trD [7,8]),(7,trD [0,8])])])]),(6, .node [(0,trD [2,3,7,8]),(2, .node [(0,trD [3,7,8]),(3, .node [(0,trD [7,8]),(7,trD [0,8])])])])])])])]
def uQ:List (List Nat):=[[20,21,22,23,24,25,26],[19,21,22,23,24,25,26],[19,20,23,24,25],[19,20,23,24,25],[19,20,21,22],[19,20,21,22],[19,20,21,22],[19,20],[]]
theorem aj.xw {P:Program} {N:Nat} {ops:Array Oper} {id:Nat} {fr:Fr} {H:Hp} {Q:Exit->Fr->Hp->Prop} (fr1:Fr) (H1:Hp) (h1:aj P N id ops fr H fun e fr' H'=>e= .normal/\Wk fr' H' fr1 H1) (h2:Q .normal fr1 H1):aj P N id ops fr H Q:=
 ⟨fun B w0 Mx w ρ a hs=>wp_mono (h1.out B w0 Mx w ρ a hs) (by
  rintro e a' w' ⟨ρ',fr',H',⟨rfl,hw⟩,bo⟩;obtain ⟨ρ2,gC⟩:=hw _ _ _ _ _ _ _ bo;exact ⟨ρ2,fr1,H1,h2,gC⟩)⟩
theorem wb {i j k:Nat} (h1:k≠i) (h2:k≠j):swI i j k=k:=by unfold swI;rw [if_neg h1,if_neg h2]
theorem QZ (i j:Nat):swI i j i=j:=by unfold swI;rw [if_pos rfl]
theorem QY {i j:Nat} (h:j≠i):swI i j j=i:=by unfold swI;rw [if_neg h,if_pos rfl]
theorem xR (i j n k m:Nat) (lo:Int):swV i j (n+2) (.agg [I lo, .sl 1 k 0 m])= .agg [I lo, .sl 1 (swI i j k) 0 m]:=rfl
theorem UB (sd:List PE) (sn:List Nat) (G:List PE) (j b:Nat) (g:PE) (cs:List Int) (hG:G.length<=900000) (hk:jX G) (hj:G[j]?=some g) (hb:b+cs.length<=g.cs.length) (hl:g.cs.length<=1000000) (iv: -1000000<=g.lo/\g.lo<=1000000)
  (gm: ∀i,-1152921504606846976<=g.cs.getD i 0/\g.cs.getD i 0<=1152921504606846976) (pG: ∀i,-1152921504606846976<=cs.getD i 0/\cs.getD i 0<=1152921504606846976) {fr fr1:Fr} {H0:Hp} {K:AV->Fr->Hp->Prop} (dx:fr1.all (fun q=>s3 de q.2)=true)
  (hw:Wk (frOf 0 [.str g.key,tpA (g.lo+2*(b:Int)) cs, .ptr 1000003 0]++lft fr) H0 (frOf 0 [.str g.key,tpA (g.lo+2*(b:Int)) cs, .ptr 1000003 0]++lft fr1) (aM sd sn G))
  (hK:K (.tup []) fr1 (aM sd sn (G.set j ⟨g.key,g.lo,gp g.cs b cs cs.length⟩))):
  gq Tryz.prog 111 [.str g.key,tpA (g.lo+2*(b:Int)) cs, .ptr 1000003 0] fr H0 K:=by
 have b9:j<G.length:=(List.getElem?_eq_some_iff.1 hj).1;have jd:max 1000001 (hnew (dH 0 G))=1000001:=by have:=qM G 0;omega
 have l6:=H7 G 0 j g hk hj;rw [Nat.zero_add] at l6;refine gq.intro [] Tryz.func111 rfl rfl (by decide) (by simp [Tryz.ntmps111]) ?_;rw [Tryz.ntmps111];refine iX.wk hw ?_
 repeat' (first|omega|(try apply ag);simp only [go_sem,sevalprocAttr,jd,l6]|apply ae<;>(intro h_;(try simp only [h_]);revert h_)|apply And.intro|with_reducible intro h_|trivial|simp only [go_sem,ah];omega)
 refine aj.xw (lft fr1) (aM sd sn (G.set j ⟨g.key,g.lo,gp g.cs b cs cs.length⟩)) ?_ ?_
 ·repeat' (first|omega|(first|apply ag|(refine aj.aq (id:=3) (uT) (by decide+kernel) mixed ?_)|(refine aj.intro (id:=3) [[15,16,17,18],[14,16,17,18],[14,15,17],[14,15,16],[14,15],[]] [[],[0],[0,1],[0,1,2],[0,1],[]] (by decide+kernel) mixed ?_)|(refine aj.ay (id:=3) (uS) (by decide+kernel) mixed ?_)|(refine aj.aq (id:=4) (uR) (by decide+kernel) mixed ?_)|(refine aj.intro (id:=4) uQ [[],[0],[0,1],[0,1],[0,1,2,3],[0,1,2,3],[0,1,2,3],[0,1],[]] (by decide+kernel) mixed ?_)|skip);simp only [go_sem,sevalprocAttr,jd,l6,↓reduceIte,reduceCtorEq,uT,uS,uR,uQ]|apply ae<;>(intro h_;(try simp only [h_]);revert h_)|apply And.intro|with_reducible intro h_|trivial|simp only [go_sem,ah];omega)
  all_goals refine ⟨au.inline (UO sd sn G j b (j+10) g cs hG hj rfl hb hl iv gm pG ?_)⟩
  all_goals (repeat' (first|omega|(first|apply ag|(refine aj.aq (id:=3) (uT) (by decide+kernel) mixed ?_)|(refine aj.intro (id:=3) [[15,16,17,18],[14,16,17,18],[14,15,17],[14,15,16],[14,15],[]] [[],[0],[0,1],[0,1,2],[0,1],[]] (by decide+kernel) mixed ?_)|(refine aj.ay (id:=3) (uS) (by decide+kernel) mixed ?_)|(refine aj.aq (id:=4) (uR) (by decide+kernel) mixed ?_)|(refine aj.intro (id:=4) uQ [[],[0],[0,1],[0,1],[0,1,2,3],[0,1,2,3],[0,1,2,3],[0,1],[]] (by decide+kernel) mixed ?_)|skip);simp only [go_sem,sevalprocAttr,jd,l6,↓reduceIte,reduceCtorEq,uT,uS,uR,uQ]|apply ae<;>(intro h_;(try simp only [h_]);revert h_)|apply And.intro|with_reducible intro h_|trivial|simp only [go_sem,ah];omega))
  all_goals (
   refine FT 2000000 999999 (by omega) (by omega) (by simpa using hG) (by simp only [go_sem,sevalprocAttr]) (by simp only [go_sem,sevalprocAttr]) (by simp only [go_sem,sevalprocAttr,zzL];rfl) ?_ (by simp only [go_sem,sevalprocAttr]) (by simp only [go_sem,sevalprocAttr]) (by simp only [go_sem,sevalprocAttr]) (fun k g' hg=>?_) dx (fun t ht=>?_)
   ·refine Gn G 0 j g hk hj ?_ (fun k lo n _ h2 _=>?_)
    ·rw [xR,wb (by omega) (by omega),tq,Nat.zero_add]
    ·rw [xR,wb (by omega) (by omega)]
   ·have bM:=(List.getElem?_eq_some_iff.1 hg).1;simp only [zzL] at bM;rw [wb (by omega) (by omega)];simp only [hget]
    repeat rw [if_neg (by omega)]
    exact dc hg
   ·simp only [fget]
    repeat rw [if_neg (by omega)])
 ·repeat' (first|omega|(try apply ag);simp only [go_sem,sevalprocAttr]|apply ae<;>(intro h_;(try simp only [h_]);revert h_)|apply And.intro|with_reducible intro h_|trivial|simp only [go_sem,ah];omega)
  all_goals exact hK
theorem UN (sd:List PE) (sn:List Nat) (G:List PE) (j a b N:Nat) (dt:Int) (g:PE) (lo:Int) (cs:List Int) (hG:G.length<=900000) (hk:jX G) (hj:G[j]?=some g) (Cd:g.lo=dt+2*(a:Int)) (w5:lo=dt+2*(b:Int)) (fy:a=0\/b=0)
  (Ts:a+g.cs.length<=N) (Tn:b+cs.length<=N) (hN:N=a+g.cs.length\/N=b+cs.length) (wN:0<a\/g.cs.length+a<b+cs.length) (TA:N<=1000000) (iv: -1000000<=dt/\dt<=1000000)
  (gm: ∀i,-1152921504606846976<=g.cs.getD i 0/\g.cs.getD i 0<=1152921504606846976) (pG: ∀i,-1152921504606846976<=cs.getD i 0/\cs.getD i 0<=1152921504606846976) {fr fr1:Fr} {H0:Hp} {K:AV->Fr->Hp->Prop} (dx:fr1.all (fun q=>s3 de q.2)=true)
  (hw:Wk (frOf 0 [.str g.key,tpA lo cs, .ptr 1000003 0]++lft fr) H0 (frOf 0 [.str g.key,tpA lo cs, .ptr 1000003 0]++lft fr1) (aM sd sn G))
  (hK:K (.tup []) fr1 (aM sd sn (G.set j ⟨g.key,dt,gp (dm a g.cs N) b cs cs.length⟩))):
  gq Tryz.prog 111 [.str g.key,tpA lo cs, .ptr 1000003 0] fr H0 K:=by
 have b9:j<G.length:=(List.getElem?_eq_some_iff.1 hj).1;have jd:max 1000001 (hnew (dH 0 G))=1000001:=by have:=qM G 0;omega
 have l6:=H7 G 0 j g hk hj;rw [Nat.zero_add] at l6;refine gq.intro [] Tryz.func111 rfl rfl (by decide) (by simp [Tryz.ntmps111]) ?_;rw [Tryz.ntmps111];refine iX.wk hw ?_
 repeat' (first|omega|(try apply ag);simp only [go_sem,sevalprocAttr,jd,l6]|apply ae<;>(intro h_;(try simp only [h_]);revert h_)|apply And.intro|with_reducible intro h_|trivial|simp only [go_sem,ah];omega)
 refine aj.xw (lft fr1) (aM sd sn (G.set j ⟨g.key,dt,gp (dm a g.cs N) b cs cs.length⟩)) ?_ ?_
 ·repeat' (first|omega|(first|apply ag|(refine aj.aq (id:=3) (uT) (by decide+kernel) mixed ?_)|(refine aj.intro (id:=3) [[15,16,17,18],[14,16,17,18],[14,15,17],[14,15,16],[14,15],[]] [[],[0],[0,1],[0,1,2],[0,1],[]] (by decide+kernel) mixed ?_)|(refine aj.ay (id:=3) (uS) (by decide+kernel) mixed ?_)|(refine aj.aq (id:=4) (uR) (by decide+kernel) mixed ?_)|(refine aj.intro (id:=4) uQ [[],[0],[0,1],[0,1],[0,1,2,3],[0,1,2,3],[0,1,2,3],[0,1],[]] (by decide+kernel) mixed ?_)|skip);simp only [go_sem,sevalprocAttr,jd,l6,↓reduceIte,reduceCtorEq,uT,uS,uR,uQ]|apply ae<;>(intro h_;(try simp only [h_]);revert h_)|apply And.intro|with_reducible intro h_|trivial|simp only [go_sem,ah];omega)
  all_goals refine ⟨au.inline (U2 sd sn G j a b N (j+10) dt g lo cs hG hj rfl Cd w5 fy Ts Tn hN wN TA iv gm pG ?_)⟩
  all_goals (repeat' (first|omega|(first|apply ag|(refine aj.aq (id:=3) (uT) (by decide+kernel) mixed ?_)|(refine aj.intro (id:=3) [[15,16,17,18],[14,16,17,18],[14,15,17],[14,15,16],[14,15],[]] [[],[0],[0,1],[0,1,2],[0,1],[]] (by decide+kernel) mixed ?_)|(refine aj.ay (id:=3) (uS) (by decide+kernel) mixed ?_)|(refine aj.aq (id:=4) (uR) (by decide+kernel) mixed ?_)|(refine aj.intro (id:=4) uQ [[],[0],[0,1],[0,1],[0,1,2,3],[0,1,2,3],[0,1,2,3],[0,1],[]] (by decide+kernel) mixed ?_)|skip);simp only [go_sem,sevalprocAttr,jd,l6,↓reduceIte,reduceCtorEq,uT,uS,uR,uQ]|apply ae<;>(intro h_;(try simp only [h_]);revert h_)|apply And.intro|with_reducible intro h_|trivial|simp only [go_sem,ah];omega))
  all_goals (
   refine FT 1000010 (j+10) (by omega) (by omega) (by simpa using hG) (by simp only [go_sem,sevalprocAttr]) (by simp only [go_sem,sevalprocAttr]) (by simp only [go_sem,sevalprocAttr,zzL];rfl) ?_ (by simp only [go_sem,sevalprocAttr]) (by simp only [go_sem,sevalprocAttr]) (by simp only [go_sem,sevalprocAttr]) (fun k g' hg=>?_) dx (fun t ht=>?_)
   ·refine Gn G 0 j g hk hj ?_ (fun k lo n _ h2 h3=>?_)
    ·rw [xR,QZ,tq,wz,Nat.zero_add]
    ·rw [xR,wb (by omega) (by omega)]
   ·have bM:=(List.getElem?_eq_some_iff.1 hg).1;simp only [zzL] at bM;rw [List.getElem?_set] at hg;by_cases e:j=k
    ·subst e;rw [if_pos rfl,if_pos bM] at hg;cases hg;rw [QY (by omega)];rfl
    ·rw [if_neg e] at hg;rw [wb (by omega) (by omega)];simp only [hget]
     repeat rw [if_neg (by omega)]
     exact dc hg
   ·simp only [fget]
    repeat rw [if_neg (by omega)])
 ·repeat' (first|omega|(try apply ag);simp only [go_sem,sevalprocAttr]|apply ae<;>(intro h_;(try simp only [h_]);revert h_)|apply And.intro|with_reducible intro h_|trivial|simp only [go_sem,ah];omega)
  all_goals exact hK
def Rx:Tr:= .node [(1, .node [(0, .node [(2,trD [3,4,5]),(3,trD [2,4,5])]),(2, .node [(0,trD [3,4,5]),(3, .node [(0,trD [4,5]),(4,trD [0,5])])]),(3, .node [(0,trD [2,4,5]),(2, .node [(0,trD [4,5]),(4,trD [0,5])])])])]
def Rw:Tr:= .node [(0, .node [(1, .node [(2,trD [3,4,5]),(3,trD [2,4,5])]),(2, .node [(1,trD [3,4,5]),(3, .node [(1,trD [4,5]),(4,trD [1,5])])]),(3, .node [(1,trD [2,4,5]),(2, .node [(1,trD [4,5]),(4,trD [1,5])])])]),(1, .node [(0, .node [(2,trD [3,4,5]),(3,trD [2,4,5])]),(2, .node [(0,trD [3,4,5]),(3, .node [(0,trD [4,5]),(4,trD [0,5])])]),(3, .node [(0,trD [2,4,5]),(2, .node [(0,trD [4,5]),(4,trD [0,5])])])]),(2, .node [(0, .node [(1,trD [3,4,5]),(3, .node [(1,trD [4,5]),(4,trD [1,5])])]),(1, .node [(0,trD [3,4,5]),(3, .node [(0,trD [4,5]),(4,trD [0,5])])]),(3, .node [(0, .node [(1,trD [4,5]),(4,trD [1,5])]),(1, .node [(0,trD [4,5]),(4,trD [0,5])]),(4, .node [(0,trD [1,5]),(1,trD [0,5])])])]),(3, .node [(0, .node [(1,trD [2,4,5]),(2, .node [(1,trD [4,5]),(4,trD [1,5])])]),(1, .node [(0,trD [2,4,5]),(2, .node [(0,trD [4,5]),(4,trD [0,5])])]),(2, .node [(0, .node [(1,trD [4,5]),(4,trD [1,5])]),(1, .node [(0,trD [4,5]),(4,trD [0,5])]),(4, .node [(0,trD [1,5]),(1,trD [0,5])])])])]
def Rv:Tr:= .node [(1, .node [(0, .node [(2, .node [(3,trD [4,5,6,7,8]),(4, .node [(3,trD [5,6,7,8]),(5, .node [(3,trD [6,7,8]),(6,trD [3,7,8])])])]),(4, .node [(2, .node [(3,trD [5,6,7,8]),(5, .node [(3,trD [6,7,8]),(6,trD [3,7,8])])]),(5, .node [(2, .node [(3,trD [6,7,8]),(6,trD [3,7,8])]),(6,trD [2,3,7,8])])])]),(2, .node [(0, .node [(3,trD [4,5,6,7,8]),(4, .node [(3,trD [5,6,7,8]),(5, .node [(3,trD [6,7,8]),(6,trD [3,7,8])])])]),(3, .node [(0,trD [4,5,6,7,8]),(4, .node [(0,trD [5,6,7,8]),(5, .node [(0,trD [6,7,8]),(6, .node [(0,trD [7,8]),(7,trD [0,8])])])])]),(4, .node [(0, .node [(3,trD [5,6,7,8]),(5, .node [(3,trD [6,7,8]),(6,trD [3,7,8])])]),(3, .node [(0,trD [5,6,7,8]),(5, .node [(0,trD [6,7,8]),(6, .node [(0,trD [7,8]),(7,trD [0,8])])])]),(5, .node [(0, .node [(3,trD [6,7,8]),(6,trD [3,7,8])]),(3, .node [(0,trD [6,7,8]),(6, .node [(0,trD [7,8]),(7,trD [0,8])])]),(6, .node [(0,trD [3,7,8]),(3, .node [(0,trD [7,8]),(7,trD [0,8])])])])])]),(4, .node [(0, .node [(2, .node [(3,trD [5,6,7,8]),(5, .node [(3,trD [6,7,8]),(6,trD [3,7,8])])]),(5, .node [(2, .node [(3,trD [6,7,8]),(6,trD [3,7,8])]),(6,trD [2,3,7,8])])]),(2, .node [(0, .node [(3,trD [5,6,7,8]),(5, .node [(3,trD [6,7,8]),(6,trD [3,7,8])])]),(3, .node [(0,trD [5,6,7,8]),(5, .node [(0,trD [6,7,8]),(6, .node [(0,trD [7,8]),(7,trD [0,8])])])]),(5, .node [(0, .node [(3,trD [6,7,8]),(6,trD [3,7,8])]),(3, .node [(0,trD [6,7,8]),(6, .node [(0,trD [7,8]),(7,trD [0,8])])]),(6, .node [(0,trD [3,7,8]),(3, .node [(0,trD [7,8]),(7,trD [0,8])])])])]),(5, .node [(0, .node [(2, .node [(3,trD [6,7,8]),(6,trD [3,7,8])]),(6,trD [2,3,7,8])]),(2, .node [(0, .node [(3,trD [6,7,8]),(6,trD [3,7,8])]),(3, .node [(0,trD [6,7,8]),(6, .node [(0,trD [7,8]),(7,trD [0,8])])]),(6, .node [(0,trD [3,7,8]),(3, .node [(0,trD [7,8]),(7,trD [0,8])])])]),(6, .node [(0,trD [2,3,7,8]),(2, .node [(0,trD [3,7,8]),(3, .node [(0,trD [7,8]),(7,trD [0,8])])])])])])])]
def Ru:List (List Nat):=[[20,21,22,23,24,25,26],[19,21,22,23,24,25,26],[19,20,23,24,25],[19,20,23,24,25],[19,20,21,22],[19,20,21,22],[19,20,21,22],[19,20],[]]
theorem UA (sd:List PE) (sn:List Nat) (G:List PE) (s:ByteArray) (lo:Int) (cs:List Int) (hG:G.length<900000) (hk:jX G) (cK: ∀g∈G,g.key≠s) (hl:cs.length<=1000000) (y4:0<cs.length) {fr fr1:Fr} {H0:Hp} {K:AV->Fr->Hp->Prop} (dx:fr1.all (fun q=>s3 de q.2)=true)
  (hw:Wk (frOf 0 [.str s,tpA lo cs, .ptr 1000003 0]++lft fr) H0 (frOf 0 [.str s,tpA lo cs, .ptr 1000003 0]++lft fr1) (aM sd sn G))
  (hK:K (.tup []) fr1 (aM sd sn (G++[⟨s,lo,cs⟩]))):
  gq Tryz.prog 111 [.str s,tpA lo cs, .ptr 1000003 0] fr H0 K:=by
 have jd:max 1000001 (hnew (dH 0 G))=1000001:=by have:=qM G 0;omega
 have l6:=Qg G 0 s cK;have cE:cs.all (ybw∘AV.int .i64)=true:=List.all_eq_true.2 fun _ _=>rfl;refine gq.intro [] Tryz.func111 rfl rfl (by decide) (by simp [Tryz.ntmps111]) ?_;rw [Tryz.ntmps111];refine iX.wk hw ?_
 repeat' (first|omega|(try apply ag);simp only [go_sem,sevalprocAttr,jd,l6]|apply ae<;>(intro h_;(try simp only [h_]);revert h_)|apply And.intro|with_reducible intro h_|trivial|simp only [go_sem,ah];omega)
 refine aj.xw (lft fr1) (aM sd sn (G++[⟨s,lo,cs⟩])) ?_ ?_
 ·repeat' (first|omega|(first|apply ag|(refine aj.aq (id:=3) (Rx) (by decide+kernel) mixed ?_)|(refine aj.intro (id:=3) [[15,16,17,18],[14,16,17,18],[14,15,17],[14,15,16],[14,15],[]] [[],[0],[0,1],[0,1,2],[0,1],[]] (by decide+kernel) mixed ?_)|(refine aj.ay (id:=3) (Rw) (by decide+kernel) mixed ?_)|(refine aj.aq (id:=4) (Rv) (by decide+kernel) mixed ?_)|(refine aj.intro (id:=4) Ru [[],[0],[0,1],[0,1],[0,1,2,3],[0,1,2,3],[0,1,2,3],[0,1],[]] (by decide+kernel) mixed ?_)|skip);simp only [go_sem,sevalprocAttr,jd,l6,cE,↓reduceIte,reduceCtorEq,Rx,Rw,Rv,Ru]|apply ae<;>(intro h_;(try simp only [h_]);revert h_)|apply And.intro|with_reducible intro h_|trivial|simp only [go_sem,ah];omega)
  all_goals (
   refine FT 1000007 (G.length+10) (by omega) (by omega) (by simp;omega) (by simp only [go_sem,sevalprocAttr]) (by simp only [go_sem,sevalprocAttr]) (by simp only [go_sem,sevalprocAttr,zzF];rfl) ?_ (by simp only [go_sem,sevalprocAttr]) (by simp only [go_sem,sevalprocAttr]) (by simp only [go_sem,sevalprocAttr]) (fun k g' hg=>?_) dx (fun t ht=>?_)
   ·rw [List.map_append,D5 G 0 (fun k lo n _ h2=>by rw [xR,wb (by omega) (by omega)]),Nf,Nat.zero_add];simp only [List.map_cons,List.map_nil,xR,QZ]
   ·have bM:=(List.getElem?_eq_some_iff.1 hg).1;simp only [zzF,zzG,List.length_nil] at bM;by_cases e:k=G.length
    ·subst e;rw [List.getElem?_append_right (zzA _),Nat.sub_self] at hg;cases hg;rw [QY (by omega)];rfl
    ·rw [List.getElem?_append_left (by omega)] at hg;rw [wb (by omega) (by omega)];simp only [hget]
     repeat rw [if_neg (by omega)]
     exact dc hg
   ·simp only [fget]
    repeat rw [if_neg (by omega)])
 ·repeat' (first|omega|(try apply ag);simp only [go_sem,sevalprocAttr]|apply ae<;>(intro h_;(try simp only [h_]);revert h_)|apply And.intro|with_reducible intro h_|trivial|simp only [go_sem,ah];omega)
  all_goals exact hK
theorem Dh (aN:Nat) (T:List Nat) (b:Bool):fK aN T (jL b)=fo aN T b:=by
 funext x;unfold fK jJ fo
 split
 ·simp
 ·have h: ∀i,0<=(jL b).getD i 0:=fun i=>by
   cases b<;>(match i with
    |0=>decide
    |1=>decide
    |2=>decide
    |3=>decide
    |i+4=>simp [jL])
  have:=h (x-aN)
  omega
section
variable {m:List Int} {n:Nat} {P:List Nat} {ends:List Int} {c:Nat} {T:List Nat} (hp:bD m n) (he:qH m n P ends) (hT:nr T ends.length) (hc:c<n) (aT:c∉P) (hw:ends.length<=90)
include hp he hT hc aT hw
theorem Jg (b:Bool):Q4 ends.length (aS m ends c) (c6 m ends c) (aE m ends c).length T (jL b):=by
 have E:=D9 hp he hT hc aT fun _=>b;obtain ⟨f1,f2⟩:=WM hp he hT hc aT fun _=>b;refine ⟨Ah _ _ _,Ah _ _ _,hT.len,hT.lt (by omega),by cases b<;>rfl,fun i=>?_,hw,?_,fun x hx=>?_,fun x hx=>⟨fun h=>?_,fun h=>?_⟩,fun x hx=>?_,fun k hk hg=>?_,fun k hk hg hs=>?_⟩
 ·cases b<;>(match i with
   |0=>decide
   |1=>decide
   |2=>decide
   |3=>decide
   |i+4=>simp [jL])
 ·have:=Ni hp he hc aT;omega
 ·rcases Int.lt_or_le ((aS m ends c).getD x 0) 0 with h|h
  ·have h1:=(wu hp he hc aT hx).1 h;have h2:=DJ hp he hc aT hx;unfold jR at h2;rw [h1] at h2;rw [h2];simp;omega
  ·obtain ⟨y,hy,e,_⟩:=Ab hp he hc aT hx h;rw [e];omega
 ·have h1:eW (bE ends c) m x≠none:=fun e=>by have:=(wu hp he hc aT hx).2 e;omega
  rw [F2 hp he hc aT hx,if_pos (by cases hq:eW (bE ends c) m x with
   |none=>exact absurd hq h1
   |some _=>rfl)]
 ·have h1:=(wu hp he hc aT hx).1 h;rw [tD hp he hc aT hx h1]
  have:(aJ (bE ends c) m x).length<(aE m ends c).length:=(qh hx h1).1
  omega
 ·have h1:fo ends.length T b x<ends.length+4:=E.nod.ar x hx;have h2:(jJ ends.length T (jL b) x).toNat=fo ends.length T b x:=congrFun (Dh ends.length T b) x;have h3:0<=jJ ends.length T (jL b) x:=by
   unfold jJ
   split
   ·omega
   ·have: ∀i,0<=(jL b).getD i 0:=fun i=>by
     cases b<;>(match i with
      |0=>decide
      |1=>decide
      |2=>decide
      |3=>decide
      |i+4=>simp [jL])
    have:=this (x-ends.length)
    omega
  omega
 ·rw [Dh];exact f1 k hk hg
 ·rw [Dh] at hs⊢;exact f2 k hk hg hs
omit hw in
theorem JI (b:Bool):nT (txN (fo ends.length T b) (fun x=>(aS m ends c).getD x 0) (fun x=>(c6 m ends c).getD x 0) (ends.length+4) (aE m ends c).length (ends.length+4))=pS (df m ends c T b):=by
 unfold pS df;rw [List.map_map];congr 1
 conv=>lhs;rw [←List.map_id (txN _ _ _ _ _ _)]
 refine List.map_congr_left fun t ht=>?_;obtain ⟨j,hj,rfl⟩:=List.mem_iff_getElem.1 ht
 have:=AK hp he hT hc aT b j (by rw [wv] at hj;exact hj)
 rw [zzB,zzI hj,Option.getD_some] at this;simp only [Function.comp,id];omega
theorem Qf (b:Bool):Fn Tryz.prog 143 [.agg [I ends.length,roI (aS m ends c),roI (c6 m ends c),roI (aE m ends c)], .str (pS T), .agg ((jL b).map (AV.int .i64))]
  (.tup [.str (pS (df m ends c T b)),I (ct m ends c T b)]):=by
 have h:=WO ends.length (aS m ends c) (c6 m ends c) (aE m ends c) T (jL b) (Jg hp he hT hc aT hw b);rw [Dh] at h;have e:=JI hp he hT hc aT b;unfold aC at h;rw [e] at h;exact h
end
end Go.Proofs.YtmdjdekgakidhaaGreatDoor
