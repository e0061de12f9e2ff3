/- Plain: on the sphere, an orientation of the strands comes of a potential on the faces. -/
import Derived.Test.YtphjphpmfflfpaaGreatDoorSq
import Derived.Test.YtphjphpmfflfpaaGreatDoorZb
import Derived.Test.YtphjphpmfflfpaaGreatDoorZg
namespace Go.Proofs.YtphjphpmfflfpaaGreatDoor
set_option linter.unusedSimpArgs false
set_option linter.unusedVariables false
namespace Sp
open Classical
section
variable {N n:Nat} {si al:Nat->Nat} {w g:Nat->Int}
structure AP (N:Nat) (si al:Nat->Nat) (w g:Nat->Int):Prop where
 hY: ∀x,x<N->g (si (al x))=g x
 edge: ∀x,x<N->g x-g (al x)=w x
theorem Zv {f:Nat->Nat} (hf:aN N f) (h: ∀x,x<N->g (f x)=g x) {x y:Nat} (hx:x<N) (hs:SC f x y):g y=g x:=by
 obtain ⟨k,rfl⟩:=hs
 induction k with
 |zero=>rfl
 |succ k ih=>simp only [itn];rw [h _ (hf.cI hx k),ih]
theorem k6.rE (h:k6 N si al) {p q:Nat} (hp:p<N) (hq:q<N) (mn:p≠q) (jg:SC si p q) (hg:AP N (swp si p q) al w g): ∃g',AP N si al w g':=by
 have hs:=h.perm;have ha:=h.ej;have aZ:=cC hs hp hq;have hE:=dq hs ha;have c8:=dq aZ ha;have gO:=ha.lt p hp;have mC:=ha.lt q hq;have gn:=o9 hs ha N (Nat.le_refl _);have eo:=o9 aZ ha N (Nat.le_refl _);have IL:al p≠al q:=fun e=>mn (by rw [←ha.inv p hp,←ha.inv q hq,e]);have tG: ∀x,x<N->swp (bK si al N) (al p) (al q) x=bK (swp si p q) al N x:=fun x hx=>by
  rw [de ha hx];unfold swp;have i1:=ha.inv x hx;by_cases h1:x=al p
  ·subst h1;rw [if_pos rfl,ha.inv p hp,if_pos rfl,de ha mC,ha.inv q hq]
  ·rw [if_neg h1];have n1:al x≠p:=fun e=>h1 (by rw [←e,i1]);by_cases h2:x=al q
   ·subst h2;rw [if_pos rfl,ha.inv q hq,if_neg (Ne.symm mn),if_pos rfl,de ha gO,ha.inv p hp]
   ·rw [if_neg h2];have n2:al x≠q:=fun e=>h2 (by rw [←e,i1]);rw [if_neg n1,if_neg n2,de ha hx]
 have jI:=cC gn gO mC;have fin: ∀g',AP N (swp si p q) al w g'->g' (al p)=g' (al q)->AP N si al w g':=fun g' vw he=>by
  refine ⟨fun x hx=>?_,vw.edge⟩;by_cases h1:al x=p
  ·have e:=vw.hY (al q) mC;rw [ha.inv q hq] at e
   have:swp si p q q=si p:=by unfold swp;rw [if_neg (Ne.symm mn),if_pos rfl]
   rw [this] at e;rw [h1,e,←he,←h1,ha.inv x hx]
  ·by_cases h2:al x=q
   ·have e:=vw.hY (al p) gO;rw [ha.inv p hp] at e
    have:swp si p q p=si q:=by unfold swp;rw [if_pos rfl]
    rw [this] at e;rw [h2,e,he,←h2,ha.inv x hx]
   ·have e:=vw.hY x hx;rwa [show swp si p q (al x)=si (al x) by unfold swp;rw [if_neg h1,if_neg h2]] at e
 have lP: ∀g',AP N (swp si p q) al w g'-> ∀x y,x<N->SC (bK (swp si p q) al N) x y->g' y=g' x:=fun g' vw x y hx nS=>Zv eo (fun z hz=>by rw [de ha hz];exact vw.hY z hz) hx nS;by_cases hF:SC (bK si al N) (al p) (al q)
 ·--the parts are different components
  have cD: ¬SC (bK (swp si p q) al N) (al p) (al q):=fun e=>cT gn gO IL hF ((cu jI tG gO).2 e);have jQ:KK si al N p q:=k7 hs ha hp jg;have hnK: ¬KK (swp si p q) al N p q:=fun dm=>by
   have Ez:=cT hs hp mn jg;have EA:=bu aZ hp hq Ez;rw [dC] at EA;obtain ⟨lV,hV⟩:=Tr.exists (SC.eqv hs) (KK si al N p);obtain ⟨lF,Xo⟩:=Tr.exists (SC.eqv gn) (KK si al N p);have heq:=h.eq p hp lV lF hV Xo;obtain ⟨Ee,pz⟩:=Tr.exists (SC.eqv aZ) (KK si al N p);obtain ⟨zE,qY⟩:=Tr.exists (SC.eqv eo) (KK si al N p);have Qp:KK si al N p p:=hE.rfl' _ hp
   have hv1:Ee.length=lV.length+1:=pz.join (SC.eqv aZ) hp hq Qp jQ Ez (hV.congr EA);have uo:KK si al N p (al p):=dL hs ha hp;have uk:KK si al N p (al q):=hE.trans _ _ _ hp hq mC jQ (dL hs ha hq);have qX:Tr N (KK si al N p) (SC (swp (bK si al N) (al p) (al q))) zE:=qY.congr fun x y hx _=>(cu jI tG hx).symm;have tK:=cT gn gO IL hF
   have hj:=bu jI gO mC tK;rw [dC] at hj;have XB:=qX.join (SC.eqv jI) gO mC uo uk tK (Xo.congr hj);have cX: ∀x y,x<N->y<N->KK (swp si p q) al N x y->KK si al N x y:=fun x y hx hy hk=>by
    refine cB aZ ha hE (fun x hx=>?_) (fun x hx=>dL hs ha hx) hx hy hk;unfold swp;by_cases h1:x=p
    ·rw [if_pos h1,h1];exact hE.trans _ _ _ hp hq (hs.lt _ hq) jQ (fI hs ha hq)
    ·by_cases h2:x=q
     ·rw [if_neg h1,if_pos h2,h2];exact hE.trans _ _ _ hq hp (hs.lt _ hp) (hE.symm _ _ hp hq jQ) (fI hs ha hp)
     ·rw [if_neg h1,if_neg h2];exact fI hs ha hx
   have Pq: ∀x y,x<N->y<N->KK si al N x y->KK (swp si p q) al N x y:=fun x y hx hy hk=>by
    refine cB hs ha c8 (fun x hx=>?_) (fun x hx=>dL aZ ha hx) hx hy hk;by_cases h1:x=p
    ·have:=fI aZ ha hq
     rw [show swp si p q q=si p by unfold swp;rw [if_neg (Ne.symm mn),if_pos rfl]] at this;rw [h1];exact c8.trans _ _ _ hp hq (hs.lt _ hp) dm this
    ·by_cases h2:x=q
     ·have:=fI aZ ha hp
      rw [show swp si p q p=si q by unfold swp;rw [if_pos rfl]] at this;rw [h2];exact c8.trans _ _ _ hq hp (hs.lt _ hq) (c8.symm _ _ hp hq dm) this
     ·have:=fI aZ ha hx
      rwa [show swp si p q x=si x by unfold swp;rw [if_neg h1,if_neg h2]] at this
   have bO: ∀x,x<N->(KK si al N p x↔KK (swp si p q) al N p x):=fun x hx=>⟨Pq p x hp hx,cX p x hp hx⟩;have e1:=pz.ct bO (E':=SC (swp si p q)) (fun _ _ _ _ _ _=>Iff.rfl);have e2:=qY.ct bO (E':=SC (bK (swp si p q) al N)) (fun _ _ _ _ _ _=>Iff.rfl);have e3:eU al (KK si al N p) N=eU al (KK (swp si p q) al N p) N:=xw fun x hx=>by rw [bO x hx]
   have e4:=CV aZ ha hp e1 e2;omega
  refine ⟨fun z=>if KK (swp si p q) al N q z then g z+(g (al p)-g (al q)) else g z,fin _ ⟨fun x hx=>?_,fun x hx=>?_⟩ ?_⟩
  ·have rV:=ha.lt x hx;have bO:=fJ aZ ha hq;have e:KK (swp si p q) al N q (swp si p q (al x))↔KK (swp si p q) al N q x:=by rw [←bO.1 _ rV,←bO.2 _ hx]
   by_cases hk:KK (swp si p q) al N q x
   ·rw [if_pos hk,if_pos (e.2 hk),hg.hY x hx]
   ·rw [if_neg hk,if_neg fun e'=>hk (e.1 e'),hg.hY x hx]
  ·have e:=(fJ aZ ha hq).2 x hx
   have:=hg.edge x hx
   by_cases hk:KK (swp si p q) al N q x
   ·rw [if_pos hk,if_pos (e.1 hk)];omega
   ·rw [if_neg hk,if_neg fun e'=>hk (e.2 e')];exact this
  ·have e1: ¬KK (swp si p q) al N q (al p):=fun e=>hnK (c8.symm _ _ hq hp (c8.trans _ _ _ hq gO hp e (c8.symm _ _ hp gO (dL aZ ha hp))));rw [if_neg e1,if_pos (dL aZ ha hq)];omega
 ·--one hY behind the parting
  refine ⟨g,fin g hg ?_⟩;have hj:=bu gn gO mC hF
  have:SC (bK (swp si p q) al N) (al p) (al q):=(cu jI tG gO).1 ((hj _ _ gO mC).2 (.inr (.inl ⟨.refl _ _, .refl _ _⟩)))
  exact (lP g hg _ _ gO this).symm
def mV (b:Bool):Nat:=if b then 1 else 0
def wv (b:Bool) (x:Nat):Nat:=if b then x-x % 4+(3-x % 4) else if x % 2=0 then x+1 else x-1
def sD (b:Nat->Bool) (k x:Nat):Nat:=if x/4<k then wv (b (x/4)) x else bT x
theorem RX (b:Nat->Bool):sD b 0=bT:=funext fun x=>by unfold sD;rw [if_neg (by omega)]
theorem RW (b:Nat->Bool) (k:Nat):sD b (k+1)=swp (sD b k) (4*k+mV (b k)) (4*k+mV (b k)+2):=funext fun x=>by
 unfold sD swp;by_cases h:x/4=k
 ·have e:x=4*k\/x=4*k+1\/x=4*k+2\/x=4*k+3:=by omega
  rw [if_pos (by omega),h];cases hb:b k with
  |false=>
   simp only [mV,wv,bT,Bool.false_eq_true,if_false];rcases e with rfl|rfl|rfl|rfl
   ·rw [if_pos (by omega),if_pos (by omega),if_neg (by omega)];omega
   ·rw [if_neg (by omega),if_neg (by omega),if_neg (by omega),if_neg (by omega)];omega
   ·rw [if_pos (by omega),if_neg (by omega),if_pos (by omega),if_neg (by omega)];omega
   ·rw [if_neg (by omega),if_neg (by omega),if_neg (by omega),if_neg (by omega)];omega
  |true=>
   simp only [mV,wv,bT,if_true];rcases e with rfl|rfl|rfl|rfl
   ·rw [if_neg (by omega),if_neg (by omega),if_neg (by omega)];omega
   ·rw [if_pos (by omega),if_neg (by omega)];omega
   ·rw [if_neg (by omega),if_neg (by omega),if_neg (by omega)];omega
   ·rw [if_neg (by omega),if_pos (by omega),if_neg (by omega)];omega
 ·have h1:x≠4*k+mV (b k)/\x≠4*k+mV (b k)+2:=by unfold mV;split<;>omega
  rw [if_neg h1.1,if_neg h1.2];show (if x/4<k+1 then wv (b (x/4)) x else bT x)=if x/4<k then wv (b (x/4)) x else bT x;by_cases h2:x/4<k
  ·rw [if_pos (by omega),if_pos h2]
  ·rw [if_neg (by omega),if_neg h2]
theorem Vn (b:Nat->Bool) (k:Nat):SC (sD b k) (4*k+mV (b k)) (4*k+mV (b k)+2):=by
 have key: ∀x,x/4=k->sD b k x=bT x:=fun x hx=>by unfold sD;rw [if_neg (by omega)]
 have h1:(4*k+mV (b k))/4=k:=by unfold mV;split<;>omega
 refine ⟨2,?_⟩;simp only [itn];rw [key _ h1,key _ (by rw [fe];exact h1)];unfold bT mV
 split<;>omega
theorem k6.Wy (h:k6 (4*n) bT al) (b:Nat->Bool): ∀k,k<=n->k6 (4*n) (sD b k) al
 |0,_=>by rw [RX];exact h
 |k+1,hk=>by
  rw [RW]
  have:mV (b k)<=1:=by unfold mV;split<;>omega
  exact (h.Wy b k (by omega)).split (by omega) (by omega) (by omega) (Vn b k)
theorem k6.OZ (h:k6 (4*n) bT al) (o:Nat->Int) (h1: ∀x,x<4*n->o x=1\/o x= -1) (h2: ∀x,x<4*n->o (al x)= -o x) (h3: ∀c,c<n->o (4*c+2)= -o (4*c)/\o (4*c+3)= -o (4*c+1)): ∃g,AP (4*n) bT al o g:=by
 obtain ⟨b,hb⟩: ∃b:Nat->Bool,b=fun c=>decide (o (4*c+1)=o (4*c)):=⟨_,rfl⟩;have qc: ∀x,x<4*n->o (wv (b (x/4)) x)= -o x:=fun x hx=>by
  have e:x=4*(x/4)\/x=4*(x/4)+1\/x=4*(x/4)+2\/x=4*(x/4)+3:=by omega
  have hc:x/4<n:=by omega
  generalize x/4=c at*;obtain ⟨k1,k2⟩:=h3 c hc;have o0:=h1 (4*c) (by omega);have o1:=h1 (4*c+1) (by omega);by_cases IK:o (4*c+1)=o (4*c)
  ·rw [show b c=true by rw [hb];exact decide_eq_true IK];simp only [wv,if_true];rcases e with rfl|rfl|rfl|rfl
   ·rw [show 4*c-4*c % 4+(3-4*c % 4)=4*c+3 by omega];omega
   ·rw [show 4*c+1-(4*c+1)% 4+(3-(4*c+1)% 4)=4*c+2 by omega];omega
   ·rw [show 4*c+2-(4*c+2)% 4+(3-(4*c+2)% 4)=4*c+1 by omega];omega
   ·rw [show 4*c+3-(4*c+3)% 4+(3-(4*c+3)% 4)=4*c by omega];omega
  ·rw [show b c=false by rw [hb];exact decide_eq_false IK];simp only [wv,Bool.false_eq_true,if_false];rcases e with rfl|rfl|rfl|rfl
   ·rw [if_pos (by omega)];omega
   ·rw [if_neg (by omega),show 4*c+1-1=4*c by omega];omega
   ·rw [if_pos (by omega),show 4*c+2+1=4*c+3 by omega];omega
   ·rw [if_neg (by omega),show 4*c+3-1=4*c+2 by omega];omega
 have key: ∀d,d<=n-> ∃g,AP (4*n) (sD b (n-d)) al o g:=fun d=>by
  induction d with
  |zero=>
   intro _;refine ⟨fun x=>if o x=1 then 1 else 0,fun x hx=>?_,fun x hx=>?_⟩
   ·have rV:=h.ej.lt x hx;have e1:sD b (n-0) (al x)=wv (b (al x/4)) (al x):=by unfold sD;rw [if_pos (by omega)]
    have e2:=qc _ rV;have e3:=h2 x hx;rw [e1,e2,e3];rcases h1 x hx with e|e<;>rw [e]<;>decide
   ·have e3:=h2 x hx;show (if o x=1 then (1:Int) else 0)-(if o (al x)=1 then 1 else 0)=o x;rw [e3];rcases h1 x hx with e|e<;>rw [e]<;>decide
  |succ d ih=>
   intro hd;obtain ⟨g,hg⟩:=ih (by omega);rw [show n-d=(n-(d+1))+1 by omega,RW] at hg
   have:mV (b (n-(d+1)))<=1:=by unfold mV;split<;>omega
   exact (h.Wy b (n-(d+1)) (by omega)).rE (by omega) (by omega) (by omega) (Vn b _) hg
 have:=key n (Nat.le_refl _)
 rwa [Nat.sub_self,RX] at this
end
end Sp
end Go.Proofs.YtphjphpmfflfpaaGreatDoor
set_option linter.unusedSimpArgs false
set_option linter.unusedVariables false
namespace Go.Proofs.YtphjphpmfflfpaaGreatDoor
namespace Sp
end Sp
namespace Sp
section
variable {s m:List Int} {L:Int} {n c:Nat} {b:Bool}
theorem jk (hv:bF s m L=true):lA m s.length/\rD m s.length=true:=by
 have v:=cK hv;refine ⟨⟨v.prd,fun x hx=>(v.mt x hx).2.2.1⟩,?_⟩;rw [Ho] at hv;unfold Bo at hv;exact (Bool.and_eq_true _ _▸hv).2
theorem wx {x:Int} (hs:s.getD c 0=1\/s.getD c 0= -1) (hx:x/4=c):aw s (bd (s.getD c 0== -1) x)= !aw s x:=by
 have e:x=4*c\/x=4*c+1\/x=4*c+2\/x=4*c+3:=by omega
 have d0:(4*(c:Int))/4=c/\(4*(c:Int)+1)/4=c/\(4*(c:Int)+2)/4=c/\(4*(c:Int)+3)/4=c:=by omega
 have r0:(4*(c:Int))% 4=0/\(4*(c:Int)+1)% 4=1/\(4*(c:Int)+2)% 4=2/\(4*(c:Int)+3)% 4=3:=by omega
 obtain ⟨d1,d2,d3,d4⟩:=d0;obtain ⟨r1,r2,r3,r4⟩:=r0;rcases hs with hs|hs
 ·have hb:(s.getD c 0== -1)=false:=by rw [hs];decide
  rw [hb];obtain ⟨j1,j2,j3,j4⟩:=jnF c;rcases e with rfl|rfl|rfl|rfl
  ·rw [j1];simp only [aw,d1,d2,r1,r2,Int.toNat_natCast,hs];decide
  ·rw [j2];simp only [aw,d1,d2,r1,r2,Int.toNat_natCast,hs];decide
  ·rw [j3];simp only [aw,d3,d4,r3,r4,Int.toNat_natCast,hs];decide
  ·rw [j4];simp only [aw,d3,d4,r3,r4,Int.toNat_natCast,hs];decide
 ·have hb:(s.getD c 0== -1)=true:=by rw [hs];decide
  rw [hb];obtain ⟨j1,j2,j3,j4⟩:=jnT c;rcases e with rfl|rfl|rfl|rfl
  ·rw [j1];simp only [aw,d1,d4,r1,r4,Int.toNat_natCast,hs];decide
  ·rw [j2];simp only [aw,d2,d3,r2,r3,Int.toNat_natCast,hs];decide
  ·rw [j3];simp only [aw,d2,d3,r2,r3,Int.toNat_natCast,hs];decide
  ·rw [j4];simp only [aw,d1,d4,r1,r4,Int.toNat_natCast,hs];decide
end
end Sp
namespace Sp
section
variable {s m:List Int} {L:Int} {n c k:Nat}
theorem qD {to:Int->Int} {t:Nat->Nat} (ht: ∀x:Nat,to x=t x) (hi: ∀x y,t x=t y->x=y) (hl: ∀x,x<m.length->t x<m.length): ∀k,k<=m.length-> ∀i,i<k->(j7 m to k).getD (t i) 0=to (m.getD i 0)
 |0,_,i,h=>by omega
 |k+1,hk,i,h=>by
  have hlen:=GS m to k;simp only [j7];rw [ht k,Int.toNat_natCast];by_cases e:i=k
  ·subst e;rw [nL (by rw [hlen];exact hl i (by omega))]
  ·rw [ma (fun e'=>e (hi _ _ e').symm)];exact qD ht hi hl k (by omega) i (by omega)
def kT (s:List Int) (c:Nat):Nat:=if s.getD c 0=1 then 1 else 3
theorem qG:kT s c=1\/kT s c=3:=by unfold kT;split<;>simp
end
end Sp
namespace Sp
section
variable {s m:List Int} {L:Int} {n c k:Nat}
end
end Sp
namespace Sp
end Sp
namespace Sp
section
variable {s m:List Int} {L:Int} {n c k:Nat}
def bcN (v:List Bool):List Int->Nat
 |[]=>0
 |h::t=>(if v.getD (h/4).toNat false=false/\h % 2=0 then 1 else 0)+bcN (v.set (h/4).toNat true) t
def bc (s m:List Int):Nat:=bcN (List.replicate s.length false) (a8 s m).flatten
theorem RV {N:Nat} {want:Int->Bool} {orb:Int->List Int}: ∀h,(a7 N want orb h).1=[]->(a7 N want orb h).2=List.replicate N false/\ ∀x,x<h->x<N->want x=false
 |0,_=>⟨rfl,fun x hx=>by omega⟩
 |h+1,e=>by
  simp only [a7,kX] at e⊢;by_cases hq:((a7 N want orb h).2.getD h false|| !want h)=true
  ·rw [if_pos hq] at e⊢;obtain ⟨h1,h2⟩:=RV h e;refine ⟨h1,fun x hx hN=>?_⟩;by_cases WT:x<h
   ·exact h2 x WT hN
   ·obtain rfl:x=h:=by omega
    rw [h1,List.getD_eq_getElem?_getD,List.getElem?_replicate,if_pos hN] at hq;simpa using hq
  ·rw [if_neg hq] at e;simp at e
theorem jC (v:Bn s m L) (h:0<s.length):0<(a8 s m).length:=by
 apply Nat.pos_of_ne_zero;intro e;have hn:a8 s m=[]:=List.eq_nil_of_length_eq_zero e;have h2:=(RV _ hn).2 2 (by rw [v.len];omega) (by rw [v.len];omega);simp [aw] at h2
end
end Sp
namespace Sp
section
variable {s m:List Int} {L:Int} {n c k:Nat}
end
end Sp
set_option linter.unusedSectionVars false
namespace Sp
open Classical
section
variable {N:Nat} {si al si':Nat->Nat}
theorem UU (hs:aN N si) (aZ:aN N si') (h1: ∀x,x<N->si (si' x)=x) {x y:Nat} (hx:x<N) (h:SC si' x y):SC si x y:=by
 have hE:=SC.eqv hs;refine Bf aZ hE (fun z hz=>?_) hx h
 have:SC si (si' z) (si (si' z)):=SC.step _ _
 rw [h1 z hz] at this;exact hE.symm _ _ (aZ.lt z hz) hz this
theorem k6.opp (h:k6 N si al) (aZ:aN N si') (h1: ∀x,x<N->si (si' x)=x) (h2: ∀x,x<N->si' (si x)=x):k6 N si' al:=by
 have hs:=h.perm;have ha:=h.ej;have OW: ∀x y,x<N->y<N->(SC si x y↔SC si' x y):=fun x y hx hy=>⟨fun k=>UU aZ hs h2 hx k,fun k=>UU hs aZ h1 hx k⟩;have kE: ∀x y,x<N->y<N->(KK si al N x y↔KK si' al N x y):=fun x y hx hy=>by
  constructor
  ·intro k;exact cB hs ha (dq aZ ha) (fun z hz=>k7 aZ ha hz ((OW z _ hz (hs.lt z hz)).1 (SC.step si z))) (fun z hz=>dL aZ ha hz) hx hy k
  ·intro k;exact cB aZ ha (dq hs ha) (fun z hz=>k7 hs ha hz ((OW z _ hz (aZ.lt z hz)).2 (SC.step si' z))) (fun z hz=>dL hs ha hz) hx hy k
 have gn:=o9 hs ha N (Nat.le_refl _);have eo:=o9 aZ ha N (Nat.le_refl _);have fE: ∀x y,x<N->SC (bK si' al N) x y->SC (bK si al N) (al x) (al y):=fun x y hx k=>by
  have QB:gd N (fun a b=>SC (bK si al N) (al a) (al b)):=⟨fun a eH=> .refl _ _,fun a b eH hb k=>k.symm gn (ha.lt a eH),fun a b c _ _ _ k l=>k.trans l⟩;refine Bf eo QB (fun z hz=>?_) hx k;have kr:=ha.lt z hz;have j8:=aZ.lt _ kr;have e:bK si al N (al (bK si' al N z))=al z:=by
   rw [de ha hz,de ha (ha.lt _ j8),ha.inv _ j8,h1 _ kr]
  have st:=SC.step (bK si al N) (al (bK si' al N z));rw [e] at st;exact st.symm gn (ha.lt _ (eo.lt z hz))
 have fE': ∀x y,x<N->SC (bK si al N) x y->SC (bK si' al N) (al x) (al y):=fun x y hx k=>by
  have QB:gd N (fun a b=>SC (bK si' al N) (al a) (al b)):=⟨fun a eH=> .refl _ _,fun a b eH hb k=>k.symm eo (ha.lt a eH),fun a b c _ _ _ k l=>k.trans l⟩;refine Bf gn QB (fun z hz=>?_) hx k;have kr:=ha.lt z hz;have j8:=hs.lt _ kr;have e:bK si' al N (al (bK si al N z))=al z:=by
   rw [de ha hz,de ha (ha.lt _ j8),ha.inv _ j8,h2 _ kr]
  have st:=SC.step (bK si' al N) (al (bK si al N z));rw [e] at st;exact st.symm eo (ha.lt _ (gn.lt z hz))
 refine ⟨aZ,ha,fun r hr lV lF hV hF=>?_⟩;have pz:Tr N (KK si al N r) (SC si) lV:=hV.ct (fun x hx=>(kE r x hr hx).symm) (fun x y hx hy _ _=>(OW x y hx hy).symm);have qY:Tr N (KK si al N r) (SC (bK si al N)) (lF.map al):=by
  refine ⟨fun x hx=>?_,?_,fun x hx y hy e=>?_,fun x hx hU=>?_⟩
  ·obtain ⟨z,hz,rfl⟩:=List.mem_map.1 hx;have hm:=hF.mem z hz;have k1:=(kE r z hr hm.1).2 hm.2;exact ⟨ha.lt z hm.1,((fJ hs ha hr).2 z hm.1).1 k1⟩
  ·rw [List.nodup_iff_pairwise_ne,List.pairwise_map];exact List.Pairwise.imp_of_mem (fun {a b} h1 h2 az e=>az (by rw [←ha.inv a (hF.mem a h1).1,e,ha.inv b (hF.mem b h2).1])) (List.nodup_iff_pairwise_ne.1 hF.nodup)
  ·obtain ⟨z,hz,rfl⟩:=List.mem_map.1 hx;obtain ⟨u,hu,rfl⟩:=List.mem_map.1 hy;have m1:=(hF.mem z hz).1;have m2:=(hF.mem u hu).1
   have:=fE' _ _ (ha.lt z m1) e
   rw [ha.inv z m1,ha.inv u m2] at this;rw [hF.apart z hz u hu this]
  ·have gw:=ha.lt x hx;obtain ⟨y,hy,k⟩:=hF.all (al x) gw ((kE r _ hr gw).1 (((fJ hs ha hr).2 x hx).1 hU));refine ⟨al y,List.mem_map.2 ⟨y,hy,rfl⟩,?_⟩
   have:=fE _ _ gw k
   rw [ha.inv x hx] at this;exact this
 have:=h.eq r hr lV (lF.map al) pz qY
 rw [List.length_map] at this;rw [this];congr 1;exact xw fun x hx=>by rw [kE r x hr hx]
end
end Sp
structure Rel (n:Nat) (f g:Nat->Nat) (m m':List Int):Prop where
 fl: ∀x,x<4*n->f x<4*n
 gl: ∀x,x<4*n->g x<4*n
 gf: ∀x,x<4*n->g (f x)=x
 fg: ∀x,x<4*n->f (g x)=x
 len:m'.length=4*n
 aH: ∀x,x<4*n->m'.getD (f x) 0=(f (m.getD x 0).toNat:Int)
section
variable {n:Nat} {f g:Nat->Nat} {m m':List Int}
theorem Rel.mD (h:Rel n f g m m') (hp:aE m n) {y:Nat} (hy:y<4*n):m'.getD y 0=(f (m.getD (g y) 0).toNat:Int):=by
 have:=h.aH (g y) (h.gl y hy)
 rw [h.fg y hy] at this;exact this
theorem Rel.pm (h:Rel n f g m m') (hp:aE m n):aE m' n:=by
 have mr: ∀x,x<4*n->(m.getD x 0).toNat<4*n/\0<=m.getD x 0:=fun x hx=>by have:=hp.ok.2 x hx;omega
 refine ⟨⟨h.len,fun y hy=>?_⟩,fun y hy=>?_,fun y hy=>?_⟩
 ·rw [h.mD hp hy]
  have:=h.fl _ (mr _ (h.gl y hy)).1
  omega
 ·have hg:=h.gl y hy;rw [h.mD hp hy,Int.toNat_natCast,h.aH _ (mr _ hg).1,hp.inv _ hg,Int.toNat_natCast,h.fg y hy]
 ·rw [h.mD hp hy];intro e;have hg:=h.gl y hy;have e2:f (m.getD (g y) 0).toNat=y:=by omega
  have e3:=congrArg g e2;rw [h.gf _ (mr _ hg).1] at e3
  have:=(mr _ hg).2
  exact hp.ne _ hg (by omega)
theorem Uk {R L:List Int} (hR:gG R (4*n)) (hL:gG L (4*n)) (q:Nat->Nat) (hq: ∀x,x<4*n->q x<4*n) (h: ∀x y:Nat,x<4*n->y<4*n->R.getD (q x) 0=R.getD (q y) 0->L.getD x 0=L.getD y 0):roots L<=roots R:=by
 unfold roots;rw [List.countP_eq_length_filter,List.countP_eq_length_filter];refine Jn (List.Nodup.sublist List.filter_sublist List.nodup_range) (fun x r=>R.getD (q x) 0=(r:Int)) (fun x hx=>?_) (fun x x' r hx gw h1 h2=>?_)
 ·simp only [List.mem_filter,List.mem_range,hL.len] at hx;have r1:=hR.cn (q x) (hq x (by omega));refine ⟨(R.getD (q x) 0).toNat,?_,by omega⟩;simp only [List.mem_filter,List.mem_range,hR.len,beq_iff_eq];refine ⟨by omega,?_⟩;rw [hR.idem _ (hq x (by omega))];omega
 ·simp only [List.mem_filter,List.mem_range,hL.len,beq_iff_eq] at hx gw
  have:=h x x' (by omega) (by omega) (h1.trans h2.symm)
  omega
theorem CY (h:Rel n f g m m') (hp:aE m n) {ch ch':Nat->Bool} (hj: ∀x,x<4*n->bd (ch' (f x/4)) (f x)=(f (bd (ch (x/4)) x).toNat:Int)):aX m' n ch'=aX m n ch:=by
 have cQ:=h.pm hp;have H:=s7 (ch:=ch) hp.ok hp.inv hp.ne;have H':=s7 (ch:=ch') cQ.ok cQ.inv cQ.ne;have hi:=l6 hp.ok hp.inv hp.ne ch;have iy:=l6 cQ.ok cQ.inv cQ.ne ch';have dv: ∀x:Nat,((x:Int)/4).toNat=x/4:=fun x=>by omega
 have toNat: ∀(x:Nat) (y:Int),x<4*n->aL (fun x=>m.getD x.toNat 0) (fun x=>bd (ch (x/4).toNat) x) x y->aL (fun x=>m'.getD x.toNat 0) (fun x=>bd (ch' (x/4).toNat) x) (f x:Nat) (f y.toNat:Nat):=fun x y hx k=>by
  induction k with
  |refl=>rw [Int.toNat_natCast];exact .refl _
  | @aH z k ih=>
    have hz:=k.cn hi (by unfold au;omega);unfold au at hz;have e1:=aL.aH ih;simp only [Int.toNat_natCast] at e1;rw [h.aH _ (by omega)] at e1;exact e1
  | @join z k ih=>
    have hz:=k.cn hi (by unfold au;omega);unfold au at hz;have e1:=aL.join ih;rw [dv,hj _ (by omega)] at e1;rw [show ((z/4).toNat)=z.toNat/4 by omega];rw [show ((z.toNat:Nat):Int)=z by omega] at e1;exact e1
 have back: ∀(x:Nat) (y:Int),x<4*n->aL (fun x=>m'.getD x.toNat 0) (fun x=>bd (ch' (x/4).toNat) x) x y->aL (fun x=>m.getD x.toNat 0) (fun x=>bd (ch (x/4).toNat) x) (g x:Nat) (g y.toNat:Nat):=fun x y hx k=>by
  induction k with
  |refl=>rw [Int.toNat_natCast];exact .refl _
  | @aH z k ih=>
    have hz:=k.cn iy (by unfold au;omega);unfold au at hz;have e1:=aL.aH ih;simp only [Int.toNat_natCast] at e1;have hg:=h.gl z.toNat (by omega);have mr:=hp.ok.2 _ hg;have e2:=h.mD hp (y:=z.toNat) (by omega);rw [e2,Int.toNat_natCast,h.gf _ (by omega),show (((m.getD (g z.toNat) 0).toNat:Nat):Int)=m.getD (g z.toNat) 0 by omega];exact e1
  | @join z k ih=>
    have hz:=k.cn iy (by unfold au;omega);unfold au at hz;have e1:=aL.join ih;have hg:=h.gl z.toNat (by omega);have e2:=hj (g z.toNat) hg;rw [h.fg _ (by omega)] at e2;have jr:=hi.jr (g z.toNat:Nat) (by unfold au;omega);unfold au at jr;rw [dv] at jr e1;rw [show ((z/4).toNat)=z.toNat/4 by omega,show z=((z.toNat:Nat):Int) by omega]
    rw [Int.toNat_natCast,e2,Int.toNat_natCast,h.gf _ (by omega),show (((bd (ch (g z.toNat/4)) (g z.toNat:Nat)).toNat:Nat):Int)=bd (ch (g z.toNat/4)) (g z.toNat:Nat) by omega];exact e1
 refine Nat.le_antisymm (Uk H.rep H'.rep g h.gl fun x y hx hy e=>?_) (Uk H'.rep H.rep f h.fl fun x y hx hy e=>?_)
 ·have k:=toNat _ _ (h.gl x hx) ((H.iff _ _ (h.gl x hx) (h.gl y hy)).1 e);rw [Int.toNat_natCast,h.fg x hx,h.fg y hy] at k;exact (H'.iff x y hx hy).2 k
 ·have k:=back _ _ (h.fl x hx) ((H'.iff _ _ (h.fl x hx) (h.fl y hy)).1 e);rw [Int.toNat_natCast,h.gf x hx,h.gf y hy] at k;exact (H.iff x y hx hy).2 k
end
def xO (x:Nat):Nat:=x-x % 4+(x % 4+1)% 4
theorem RU (n:Nat):Sp.aN (4*n) xO:=⟨fun x hx=>by unfold xO;omega,fun x y hx hy e=>by unfold xO at e;omega⟩
theorem TT {s s' m m':List Int} {L:Int} {f g:Nat->Nat} (hv:bF s m L=true) (cL:s'.length=s.length) (h:Rel s.length f g m m') (rJ: ∀i,i<s.length->s'.getD i 0=1\/s'.getD i 0= -1)
  (bf:Nat->Bool) (Au: ∀x,x<4*s.length->bf (m.getD x 0).toNat=bf x) (lL: ∀x,x<4*s.length->aw s' (f x:Nat)=(bf x^^aw s x)) (ho:(∀x,x<4*s.length->f (Sp.bT x)=Sp.bT (f x))\/(∀x,x<4*s.length->f (xO x)=Sp.bT (f x))):bF s' m' L=true:=by
 have v:=cK hv;have hp:=bP hv;have cQ:=h.pm hp;obtain ⟨hd,eZ⟩:=Sp.jk hv;have hS:=hd.vZ.1 eZ;have hD':Sp.lA m' s.length:=⟨⟨cQ.ok,cQ.inv⟩,cQ.ne⟩;have mr: ∀x,x<4*s.length->(m.getD x 0).toNat<4*s.length/\0<=m.getD x 0:=fun x hx=>by have:=hp.ok.2 x hx;omega
 have ea: ∀y,y<4*s.length->g (Sp.bW m' y)=Sp.bW m (g y):=fun y hy=>by
  unfold Sp.bW;rw [h.mD hp hy,Int.toNat_natCast,h.gf _ (mr _ (h.gl y hy)).1]
 have la: ∀y,y<4*s.length->Sp.bW m' y<4*s.length:=fun y hy=>by have:=cQ.ok.2 y hy;unfold Sp.bW;omega
 have gi: ∀x y,x<4*s.length->y<4*s.length->g x=g y->x=y:=fun x y hx hy e=>by rw [←h.fg x hx,e,h.fg y hy]
 have sl: ∀x,x<4*s.length->Sp.bT x<4*s.length:=fun x hx=>(Sp.aT s.length).lt x hx;have Qr:Sp.k6 (4*s.length) Sp.bT (Sp.bW m'):=by
  rcases ho with ho|ho
  ·refine hS.yD (io:=g) h.gl gi sl la (fun x hx=>?_) ea
   have:=ho (g x) (h.gl x hx)
   rw [h.fg x hx] at this;rw [←this,h.gf _ (sl _ (h.gl x hx))]
  ·have hO:=hS.opp (RU s.length) (fun x hx=>by unfold xO Sp.bT;omega) (fun x hx=>by unfold xO Sp.bT;omega);refine hO.yD (io:=g) h.gl gi sl la (fun x hx=>?_) ea
   have:=ho (g x) (h.gl x hx)
   rw [h.fg x hx] at this;rw [←this,h.gf _ ((RU s.length).lt _ (h.gl x hx))]
 rw [Ho];unfold Bo;rw [cL,Bool.and_eq_true];refine ⟨?_,hD'.vZ.2 Qr⟩;unfold ta;rw [decide_eq_true_iff,cL];refine ⟨v.s64,h.len,v.l0,v.vi,fun i hi=>rJ i hi,fun y hy=>?_⟩;have p1:=cQ.ok.2 y hy;refine ⟨p1.1,by rw [cL];exact p1.2,cQ.ne y hy,cQ.inv y hy,?_⟩;have hg:=h.gl y hy;have q1:=lL (g y) hg;rw [h.fg y hy] at q1;have q2:=lL _ (mr _ hg).1
 rw [h.mD hp hy,q1,q2,Au _ hg,show (((m.getD (g y) 0).toNat:Nat):Int)=m.getD (g y) 0 by have:=(mr _ hg).2;omega]
 have:=(v.mt (g y) hg).2.2.2.2
 intro e;exact this (by revert e;cases bf (g y)<;>simp)
theorem Hy {s s' m m':List Int} {L:Int} {f g:Nat->Nat} (hv:bF s m L=true) (cL:s'.length=s.length) (h:Rel s.length f g m m') (rJ: ∀i,i<s.length->s'.getD i 0=1\/s'.getD i 0= -1)
  (b:Bool) (lL: ∀x,x<4*s.length->aw s' (f x:Nat)=(b^^aw s x)) (ho:(∀x,x<4*s.length->f (Sp.bT x)=Sp.bT (f x))\/(∀x,x<4*s.length->f (xO x)=Sp.bT (f x))):bF s' m' L=true:=
 TT hv cL h rJ (fun _=>b) (fun _ _=>rfl) lL ho
theorem JS: ∀(j:Nat) (e:Int),dpw j (-e)=dpw j e
 |0,e=>by
  simp only [dpw];by_cases h:e=0
  ·rw [if_pos h,if_pos (by omega)]
  ·rw [if_neg h,if_neg (by omega)]
 |j+1,e=>by
  simp only [dpw,cS];rw [show-e+2= -(e-2) by omega,show-e-2= -(e+2) by omega,JS,JS];omega
section
variable {m m':List Int} {n L:Nat}
theorem JR (σ:Nat->Nat) (hr: ∀k,k<2^n->σ k<2^n) (hi: ∀k l,k<2^n->l<2^n->σ k=σ l->k=l) (hc: ∀k,k<2^n->aX m' n (cA (σ k))=aX m n (cA k)) (hw: ∀k,k<2^n->wB n (σ k)=wB n k) (j:Nat) (e:Int):
  aU m' n L j e=aU m n L j e:=by
 unfold aU pc;rw [←xr (fun k=>if j<=cN m' n L k then dpw (cN m' n L k-j) (e-wB n k) else 0) σ hr hi];refine dO fun k hk=>?_
 have:cN m' n L (σ k)=cN m n L k:=by unfold cN;rw [hc k hk]
 rw [this,hw k hk]
theorem Zu (σ:Nat->Nat) (hr: ∀k,k<2^n->σ k<2^n) (hi: ∀k l,k<2^n->l<2^n->σ k=σ l->k=l) (hc: ∀k,k<2^n->aX m' n (cA (σ k))=aX m n (cA k)) (hw: ∀k,k<2^n->wB n (σ k)= -wB n k) (j:Nat) (e:Int):
  aU m' n L j e=aU m n L j (-e):=by
 unfold aU pc;rw [←xr (fun k=>if j<=cN m' n L k then dpw (cN m' n L k-j) (e-wB n k) else 0) σ hr hi];refine dO fun k hk=>?_
 have:cN m' n L (σ k)=cN m n L k:=by unfold cN;rw [hc k hk]
 rw [this,hw k hk,←JS (cN m n L k-j) (e- -wB n k),show-(e- -wB n k)= -e-wB n k by omega]
end
theorem Hb (b c:Nat):cA b c=b.testBit c:=by
 rw [Nat.testBit_eq_decide_div_mod_eq];unfold cA;by_cases h:b/2^c % 2=1<;>simp [h]
theorem V5 {n k c:Nat} (hk:k<2^n) (hc:c<n):cA (2^n-1-k) c= !cA k c:=by
 rw [Hb,Hb,show 2^n-1-k=2^n-(k+1) by omega,Nat.testBit_two_pow_sub_succ hk];simp [hc]
theorem Nb {n k l:Nat} (hk:k<2^n) (hl:l<2^n) (h: ∀c,c<n->cA k c=cA l c):k=l:=by
 refine Nat.eq_of_testBit_eq fun c=>?_;by_cases hc:c<n
 ·rw [←Hb,←Hb];exact h c hc
 ·rw [Nat.testBit_lt_two_pow (Nat.lt_of_lt_of_le hk (Nat.pow_le_pow_right (by omega) (by omega))),Nat.testBit_lt_two_pow (Nat.lt_of_lt_of_le hl (Nat.pow_le_pow_right (by omega) (by omega)))]
theorem RT (b:Bool) (ch:Nat->Bool): ∀n,difS b (fun c=> !ch c) n+difS b ch n=n
 |0=>rfl
 |n+1=>by
  have:=RT b ch n
  have k: ∀x y:Bool,(if (!x)=y then 0 else 1)+(if x=y then 0 else 1)=1:=by decide
  have:=k (ch n) b
  simp only [difS];omega
theorem L8 {n k:Nat} (hk:k<2^n):wB n (2^n-1-k)= -wB n k:=by
 unfold wB;have h1:=RT false (cA k) n;rw [tb,tb,B5 fun c hc=>V5 hk hc];omega
theorem RS {m m':List Int} {n L:Nat} (hc: ∀ch,aX m' n (fun c=> !ch c)=aX m n ch) (j:Nat) (e:Int):aU m' n L j e=aU m n L j (-e):=by
 refine Zu (fun k=>2^n-1-k) (fun k hk=>by omega) (fun k l hk hl e=>by omega) (fun k hk=>?_) (fun k hk=>L8 hk) j e;rw [←hc (cA k)];unfold aX;rw [xB fun c hc=>V5 hk hc]
def da (k:Nat->Nat) (x:Nat):Nat:=x-x % 4+(x % 4+k (x/4))% 4
def dk (x:Nat):Nat:=x-x % 4+(4-x % 4)% 4
theorem Gq {m:List Int} {n:Nat} {to:Int->Int} {t u:Nat->Nat} (ht: ∀x:Nat,to x=t x) (hd: ∀x,t x/4=x/4) (hu: ∀x,u x/4=x/4) (h1: ∀x,u (t x)=x) (h2: ∀x,t (u x)=x) (hp:aE m n):Rel n t u m (j7 m to m.length):=by
 have hl:=hp.ok.1;refine ⟨fun x hx=>by have:=hd x;omega,fun x hx=>by have:=hu x;omega,fun x _=>h1 x,fun x _=>h2 x,by rw [GS];exact hl,fun x hx=>?_⟩
 have:=Sp.qD (m:=m) ht (fun x y e=>by rw [←h1 x,e,h1]) (fun x hx=>by have:=hd x;omega) m.length (Nat.le_refl _) x (by omega)
 rw [this];have hm:=hp.ok.2 x hx
 have:=ht (m.getD x 0).toNat
 rw [show (((m.getD x 0).toNat:Nat):Int)=m.getD x 0 by omega] at this;exact this
theorem zG (b:Bool) (c:Nat):bd b ((4*c:Nat):Int)=((if b then 4*c+3 else 4*c+1:Nat):Int)/\bd b ((4*c+1:Nat):Int)=((if b then 4*c+2 else 4*c:Nat):Int)/\bd b ((4*c+2:Nat):Int)=((if b then 4*c+1 else 4*c+3:Nat):Int)/\
  bd b ((4*c+3:Nat):Int)=((if b then 4*c else 4*c+2:Nat):Int):=by
 obtain ⟨a0,a1,a2,a3,b0,b1,b2,b3⟩:=OO c;cases b
 ·exact ⟨b0,b1,b2,b3⟩
 ·exact ⟨a0,a1,a2,a3⟩
theorem four (x:Nat):x=4*(x/4)\/x=4*(x/4)+1\/x=4*(x/4)+2\/x=4*(x/4)+3:=by omega
theorem FZ {k:Nat->Nat} (c:Nat) (h:k c=1\/k c=2\/k c=3):(k c=1->da k (4*c)=4*c+1/\da k (4*c+1)=4*c+2/\da k (4*c+2)=4*c+3/\da k (4*c+3)=4*c)/\
  (k c=2->da k (4*c)=4*c+2/\da k (4*c+1)=4*c+3/\da k (4*c+2)=4*c/\da k (4*c+3)=4*c+1)/\
  (k c=3->da k (4*c)=4*c+3/\da k (4*c+1)=4*c/\da k (4*c+2)=4*c+1/\da k (4*c+3)=4*c+2):=by
 have d0:4*c/4=c:=by omega
 have d1:(4*c+1)/4=c:=by omega
 have d2:(4*c+2)/4=c:=by omega
 have d3:(4*c+3)/4=c:=by omega
 unfold da;rw [d0,d1,d2,d3];omega
theorem V4 (c:Nat):dk (4*c)=4*c/\dk (4*c+1)=4*c+3/\dk (4*c+2)=4*c+2/\dk (4*c+3)=4*c+1:=by
 unfold dk;omega
theorem Na {k:Nat->Nat} (hk: ∀c,k c=1\/k c=3) (b:Bool) (x:Nat):bd (!b) (da k x:Nat)=(da k (bd b x).toNat:Int):=by
 obtain ⟨c,hc⟩: ∃c,x/4=c:=⟨_,rfl⟩;have hx:=four x;rw [hc] at hx;obtain ⟨j0,j1,j2,j3⟩:=zG b c;obtain ⟨i0,i1,i2,i3⟩:=zG (!b) c;have R:=FZ (k:=k) c (by rcases hk c with h|h<;>simp [h]);rcases hk c with h|h
 ·obtain ⟨r0,r1,r2,r3⟩:=R.1 h;rcases hx with rfl|rfl|rfl|rfl
  ·rw [r0,i1,j0,Int.toNat_natCast];cases b<;>simp [r1,r3]
  ·rw [r1,i2,j1,Int.toNat_natCast];cases b<;>simp [r0,r2]
  ·rw [r2,i3,j2,Int.toNat_natCast];cases b<;>simp [r1,r3]
  ·rw [r3,i0,j3,Int.toNat_natCast];cases b<;>simp [r0,r2]
 ·obtain ⟨r0,r1,r2,r3⟩:=R.2.2 h;rcases hx with rfl|rfl|rfl|rfl
  ·rw [r0,i3,j0,Int.toNat_natCast];cases b<;>simp [r1,r3]
  ·rw [r1,i0,j1,Int.toNat_natCast];cases b<;>simp [r0,r2]
  ·rw [r2,i1,j2,Int.toNat_natCast];cases b<;>simp [r1,r3]
  ·rw [r3,i2,j3,Int.toNat_natCast];cases b<;>simp [r0,r2]
theorem V3 (b:Bool) (x:Nat):bd b (da (fun _=>2) x:Nat)=(da (fun _=>2) (bd b x).toNat:Int):=by
 obtain ⟨c,hc⟩: ∃c,x/4=c:=⟨_,rfl⟩;have hx:=four x;rw [hc] at hx;obtain ⟨j0,j1,j2,j3⟩:=zG b c;obtain ⟨r0,r1,r2,r3⟩:=(FZ (k:=fun _=>2) c (by simp)).2.1 rfl;rcases hx with rfl|rfl|rfl|rfl
 ·rw [r0,j2,j0,Int.toNat_natCast];cases b<;>simp [r1,r3]
 ·rw [r1,j3,j1,Int.toNat_natCast];cases b<;>simp [r0,r2]
 ·rw [r2,j0,j2,Int.toNat_natCast];cases b<;>simp [r1,r3]
 ·rw [r3,j1,j3,Int.toNat_natCast];cases b<;>simp [r0,r2]
theorem M9 (b:Bool) (x:Nat):bd (!b) (dk x:Nat)=(dk (bd b x).toNat:Int):=by
 obtain ⟨c,hc⟩: ∃c,x/4=c:=⟨_,rfl⟩;have hx:=four x;rw [hc] at hx;obtain ⟨j0,j1,j2,j3⟩:=zG b c;obtain ⟨i0,i1,i2,i3⟩:=zG (!b) c;obtain ⟨r0,r1,r2,r3⟩:=V4 c;rcases hx with rfl|rfl|rfl|rfl
 ·rw [r0,i0,j0,Int.toNat_natCast];cases b<;>simp [r1,r3]
 ·rw [r1,i3,j1,Int.toNat_natCast];cases b<;>simp [r0,r2]
 ·rw [r2,i2,j2,Int.toNat_natCast];cases b<;>simp [r1,r3]
 ·rw [r3,i1,j3,Int.toNat_natCast];cases b<;>simp [r0,r2]
theorem mK (s:List Int) (c:Nat):aw s ((4*c:Nat):Int)=false/\aw s ((4*c+1:Nat):Int)=(s.getD c 0==1)/\aw s ((4*c+2:Nat):Int)=true/\aw s ((4*c+3:Nat):Int)=(s.getD c 0== -1):=by
 have e0:((4*c:Nat):Int)% 4=0:=by omega
 have e1:((4*c+1:Nat):Int)% 4=1:=by omega
 have e2:((4*c+2:Nat):Int)% 4=2:=by omega
 have e3:((4*c+3:Nat):Int)% 4=3:=by omega
 have d1:(((4*c+1:Nat):Int)/4).toNat=c:=by omega
 have d3:(((4*c+3:Nat):Int)/4).toNat=c:=by omega
 unfold aw;rw [e0,e1,e2,e3,d1,d3];simp
theorem zi {s:List Int} {sg:Int->Int} {c:Nat} (h:c<s.length):(iF s sg s.length).getD c 0=s.getD c 0*sg c:=by
 unfold iF;simp [List.getD_eq_getElem?_getD,List.getElem?_range h]
section
variable {s m:List Int} {L:Int}
theorem Ht {k k':Nat->Nat} (h: ∀c,(k c=1/\k' c=3)\/(k c=3/\k' c=1)\/(k c=2/\k' c=2)) (x:Nat):da k' (da k x)=x:=by
 have hd:da k x/4=x/4:=by unfold da;omega
 have:=h (x/4)
 unfold da at hd⊢;rw [hd];omega
theorem TH (hp:aE m s.length):Rel s.length (da (Sp.kT s)) (da (fun c=>4-Sp.kT s c)) m (AD s m fun _=>true):=by
 have hk:=fun c=>Sp.qG (s:=s) (c:=c);refine Gq (fun x=>?_) (fun x=>by unfold da;omega) (fun x=>by unfold da;omega) (Ht fun c=>by have:=hk c;omega) (Ht fun c=>by have:=hk c;omega) hp;have hd:(((x:Int)/4).toNat)=x/4:=by omega
 unfold uy dB da Sp.kT;rw [if_pos rfl,hd];by_cases h:s.getD (x/4) 0=1
 ·rw [if_pos h,if_pos h,show Int.tmod (-3) 4= -3 by decide];omega
 ·rw [if_neg h,if_neg h,show Int.tmod (-1) 4= -1 by decide];omega
theorem Uj (hv:bF s m L=true):bF (pA s fun _=>true) (AD s m fun _=>true) L=true:=by
 have v:=cK hv;have hp:=bP hv;have hlen:(pA s fun _=>true).length=s.length:=by unfold pA;rw [sv]
 have sg: ∀c,c<s.length->(pA s fun _=>true).getD c 0= -s.getD c 0:=fun c hc=>by
  unfold pA;rw [zi hc];unfold rW;simp
 refine Hy hv hlen (TH hp) (fun i hi=>by have:=v.sg i hi;rw [sg i hi];omega) false (fun x hx=>?_) (.inl fun x hx=>?_)
 ·rw [Bool.false_xor];obtain ⟨c,hc⟩: ∃c,x/4=c:=⟨_,rfl⟩;have jH:=four x;rw [hc] at jH;have bO:c<s.length:=by omega
  obtain ⟨a0,a1,a2,a3⟩:=mK s c;obtain ⟨b0,b1,b2,b3⟩:=mK (pA s fun _=>true) c;rw [sg c bO] at b1 b3;have R:=FZ (k:=Sp.kT s) c (by rcases Sp.qG (s:=s) (c:=c) with h|h<;>simp [h]);rcases v.sg c bO with h|h
  ·obtain ⟨r0,r1,r2,r3⟩:=R.1 (by unfold Sp.kT;rw [if_pos h]);rw [h] at a1 a3 b1 b3;rcases jH with rfl|rfl|rfl|rfl
   ·rw [r0,b1,a0];rfl
   ·rw [r1,b2,a1];rfl
   ·rw [r2,b3,a2];rfl
   ·rw [r3,b0,a3];rfl
  ·obtain ⟨r0,r1,r2,r3⟩:=R.2.2 (by unfold Sp.kT;rw [if_neg (by omega)]);rw [h] at a1 a3 b1 b3;rcases jH with rfl|rfl|rfl|rfl
   ·rw [r0,b3,a0];rfl
   ·rw [r1,b0,a1];rfl
   ·rw [r2,b1,a2];rfl
   ·rw [r3,b2,a3];rfl
 ·have hd:Sp.bT x/4=x/4:=Sp.fe x
  have:=Sp.qG (s:=s) (c:=x/4)
  unfold da;rw [hd];unfold Sp.bT;omega
theorem Z6 (hv:bF s m L=true) (Ln j:Nat) (e:Int):aU (AD s m fun _=>true) s.length Ln j e=aU m s.length Ln j (-e):=by
 have hp:=bP hv;refine RS (fun ch=>CY (TH hp) hp fun x hx=>?_) j e;have hd:da (Sp.kT s) x/4=x/4:=by unfold da;omega
 rw [hd];exact Na (fun c=>Sp.qG) (ch (x/4)) x
theorem TY (hp:aE m s.length):Rel s.length dk dk m (j7 m (fun h=>dB h (4-2*(h % 4))) m.length):=by
 refine Gq (fun x=>?_) (fun x=>by unfold dk;omega) (fun x=>by unfold dk;omega) (fun x=>by unfold dk;omega) (fun x=>by unfold dk;omega) hp;unfold dB dk;rcases (show x % 4=0\/x % 4=1\/x % 4=2\/x % 4=3 by omega) with h|h|h|h
 ·rw [show 4-2*((x:Int)% 4)=4 by omega,show Int.tmod 4 4=0 by decide];omega
 ·rw [show 4-2*((x:Int)% 4)=2 by omega,show Int.tmod 2 4=2 by decide];omega
 ·rw [show 4-2*((x:Int)% 4)=0 by omega,show Int.tmod 0 4=0 by decide];omega
 ·rw [show 4-2*((x:Int)% 4)= -2 by omega,show Int.tmod (-2) 4= -2 by decide];omega
theorem Ul (hv:bF s m L=true):bF (iF s (fun _=> -1) s.length) (j7 m (fun h=>dB h (4-2*(h % 4))) m.length) L=true:=by
 have v:=cK hv;have hp:=bP hv;have sg: ∀c,c<s.length->(iF s (fun _=> -1) s.length).getD c 0= -s.getD c 0:=fun c hc=>by rw [zi hc];omega
 refine Hy hv (sv _ _ _) (TY hp) (fun i hi=>by have:=v.sg i hi;rw [sg i hi];omega) false (fun x hx=>?_) (.inr fun x hx=>by unfold dk xO Sp.bT;omega);rw [Bool.false_xor];obtain ⟨c,hc⟩: ∃c,x/4=c:=⟨_,rfl⟩;have jH:=four x;rw [hc] at jH;have bO:c<s.length:=by omega
 obtain ⟨a0,a1,a2,a3⟩:=mK s c;obtain ⟨b0,b1,b2,b3⟩:=mK (iF s (fun _=> -1) s.length) c;rw [sg c bO] at b1 b3;obtain ⟨r0,r1,r2,r3⟩:=V4 c;rcases v.sg c bO with h|h<;>rw [h] at a1 a3 b1 b3<;>rcases jH with rfl|rfl|rfl|rfl
 ·rw [r0,b0,a0]
 ·rw [r1,b3,a1];rfl
 ·rw [r2,b2,a2]
 ·rw [r3,b1,a3];rfl
 ·rw [r0,b0,a0]
 ·rw [r1,b3,a1];rfl
 ·rw [r2,b2,a2]
 ·rw [r3,b1,a3];rfl
theorem y2l (hv:bF s m L=true) (Ln j:Nat) (e:Int):aU (j7 m (fun h=>dB h (4-2*(h % 4))) m.length) s.length Ln j e=aU m s.length Ln j (-e):=by
 have hp:=bP hv;refine RS (fun ch=>CY (TY hp) hp fun x hx=>?_) j e;have hd:dk x/4=x/4:=by unfold dk;omega
 rw [hd];exact M9 (ch (x/4)) x
theorem TX (hp:aE m s.length):Rel s.length (da fun _=>2) (da fun _=>2) m (j7 m (fun h=>dB h 2) m.length):=by
 refine Gq (fun x=>?_) (fun x=>by unfold da;omega) (fun x=>by unfold da;omega) (Ht fun c=>by omega) (Ht fun c=>by omega) hp;unfold dB da;rw [show Int.tmod 2 4=2 by decide];dsimp only;omega
theorem YM (hv:bF s m L=true):bF (iF s (fun _=>1) s.length) (j7 m (fun h=>dB h 2) m.length) L=true:=by
 have v:=cK hv;have hp:=bP hv;have sg: ∀c,c<s.length->(iF s (fun _=>1) s.length).getD c 0=s.getD c 0:=fun c hc=>by rw [zi hc];omega
 refine Hy hv (sv _ _ _) (TX hp) (fun i hi=>by have:=v.sg i hi;rw [sg i hi];omega) true (fun x hx=>?_) (.inl fun x hx=>by unfold da Sp.bT;dsimp only;omega);rw [Bool.true_xor];obtain ⟨c,hc⟩: ∃c,x/4=c:=⟨_,rfl⟩;have jH:=four x;rw [hc] at jH;have bO:c<s.length:=by omega
 obtain ⟨a0,a1,a2,a3⟩:=mK s c;obtain ⟨b0,b1,b2,b3⟩:=mK (iF s (fun _=>1) s.length) c;rw [sg c bO] at b1 b3;obtain ⟨r0,r1,r2,r3⟩:=(FZ (k:=fun _=>2) c (by simp)).2.1 rfl;rcases v.sg c bO with h|h<;>rw [h] at a1 a3 b1 b3<;>rcases jH with rfl|rfl|rfl|rfl
 ·rw [r0,b2,a0];rfl
 ·rw [r1,b3,a1];rfl
 ·rw [r2,b0,a2];rfl
 ·rw [r3,b1,a3];rfl
 ·rw [r0,b2,a0];rfl
 ·rw [r1,b3,a1];rfl
 ·rw [r2,b0,a2];rfl
 ·rw [r3,b1,a3];rfl
theorem y2m (hv:bF s m L=true) (Ln j:Nat) (e:Int):aU (j7 m (fun h=>dB h 2) m.length) s.length Ln j e=aU m s.length Ln j e:=by
 have hp:=bP hv;refine JR id (fun k hk=>hk) (fun k l _ _ e=>e) (fun k hk=>CY (TX hp) hp fun x hx=>?_) (fun k _=>rfl) j e;have hd:da (fun _=>2) x/4=x/4:=by unfold da;omega
 rw [hd];exact V3 _ x
end
end Go.Proofs.YtphjphpmfflfpaaGreatDoor
