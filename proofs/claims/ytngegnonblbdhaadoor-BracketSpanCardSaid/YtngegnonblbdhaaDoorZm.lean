/- Plain: the terms of a list of coefficients. -/
import Derived.Test.YtngegnonblbdhaaDoorZc
import Derived.Test.YtngegnonblbdhaaDoorSq
import Derived.Test.YtngegnonblbdhaaDoorZl
import Derived.Test.YtngegnonblbdhaaDoorZj
import Derived.Test.YtngegnonblbdhaaDoorZa
set_option linter.unusedSimpArgs false
set_option linter.unusedVariables false
namespace Go.Proofs.YtngegnonblbdhaaDoor
set_option linter.unusedVariables false
namespace Sp
end Sp
end Go.Proofs.YtngegnonblbdhaaDoor
set_option linter.unusedSimpArgs false
set_option linter.unusedVariables false
namespace Go.Proofs.YtngegnonblbdhaaDoor
namespace Sp
section
variable {s m:List Int} {L:Int} {n c:Nat} {b:Bool}
theorem dia_of (hv:yao s m L=true):Dia m s.length/\sphR m s.length=true:=by
 have v:=yb8 hv
 refine ⟨⟨v.prd,fun x hx=>(v.mt x hx).2.2.1⟩,?_⟩
 rw [ywb] at hv
 unfold ynp at hv
 exact (Bool.and_eq_true _ _▸hv).2
theorem jnB_out {x:Int} (hs:s.getD c 0=1\/s.getD c 0= -1) (hx:x/4=c):outB s (jnB (s.getD c 0== -1) x)= !outB s x:=by
 have e:x=4*c\/x=4*c+1\/x=4*c+2\/x=4*c+3:=by omega
 have d0:(4*(c:Int))/4=c/\(4*(c:Int)+1)/4=c/\(4*(c:Int)+2)/4=c/\(4*(c:Int)+3)/4=c:=by omega
 have r0:(4*(c:Int))% 4=0/\(4*(c:Int)+1)% 4=1/\(4*(c:Int)+2)% 4=2/\(4*(c:Int)+3)% 4=3:=by omega
 obtain ⟨d1,d2,d3,d4⟩:=d0
 obtain ⟨r1,r2,r3,r4⟩:=r0
 rcases hs with hs|hs
 ·have hb:(s.getD c 0== -1)=false:=by rw [hs];decide
  rw [hb]
  obtain ⟨j1,j2,j3,j4⟩:=jnF c
  rcases e with rfl|rfl|rfl|rfl
  ·rw [j1];simp only [outB,d1,d2,r1,r2,Int.toNat_natCast,hs];decide
  ·rw [j2];simp only [outB,d1,d2,r1,r2,Int.toNat_natCast,hs];decide
  ·rw [j3];simp only [outB,d3,d4,r3,r4,Int.toNat_natCast,hs];decide
  ·rw [j4];simp only [outB,d3,d4,r3,r4,Int.toNat_natCast,hs];decide
 ·have hb:(s.getD c 0== -1)=true:=by rw [hs];decide
  rw [hb]
  obtain ⟨j1,j2,j3,j4⟩:=jnT c
  rcases e with rfl|rfl|rfl|rfl
  ·rw [j1];simp only [outB,d1,d4,r1,r4,Int.toNat_natCast,hs];decide
  ·rw [j2];simp only [outB,d2,d3,r2,r3,Int.toNat_natCast,hs];decide
  ·rw [j3];simp only [outB,d2,d3,r2,r3,Int.toNat_natCast,hs];decide
  ·rw [j4];simp only [outB,d1,d4,r1,r4,Int.toNat_natCast,hs];decide
end
end Sp
end Go.Proofs.YtngegnonblbdhaaDoor
namespace Go.Proofs.YtngegnonblbdhaaDoor
namespace Sp
section
variable {s m:List Int} {L:Int} {n c k:Nat}
end
end Sp
end Go.Proofs.YtngegnonblbdhaaDoor
namespace Go.Proofs.YtngegnonblbdhaaDoor
namespace Sp
section
variable {s m:List Int} {L:Int} {n c k:Nat}
end
end Sp
end Go.Proofs.YtngegnonblbdhaaDoor
namespace Go.Proofs.YtngegnonblbdhaaDoor
namespace Sp
end Sp
end Go.Proofs.YtngegnonblbdhaaDoor
namespace Go.Proofs.YtngegnonblbdhaaDoor
namespace Sp
section
variable {s m:List Int} {L:Int} {n c k:Nat}
def bcN (v:List Bool):List Int->Nat
 |[]=>0
 |h::t=>(if v.getD (h/4).toNat false=false/\h % 2=0 then 1 else 0)+bcN (v.set (h/4).toNat true) t
def bc (s m:List Int):Nat:=bcN (List.replicate s.length false) (ywc s m).flatten
end
end Sp
end Go.Proofs.YtngegnonblbdhaaDoor
namespace Go.Proofs.YtngegnonblbdhaaDoor
namespace Sp
section
variable {s m:List Int} {L:Int} {n c k:Nat}
end
end Sp
end Go.Proofs.YtngegnonblbdhaaDoor
set_option linter.unusedSimpArgs false
set_option linter.unusedVariables false
namespace Go.Proofs.YtngegnonblbdhaaDoor
namespace Sp
section
variable {s s1 s2 m m1 m2:List Int} {L L1 L2:Int} {n c k:Nat}
variable {col:Nat->Bool} {LA LB:Int}
end
end Sp
end Go.Proofs.YtngegnonblbdhaaDoor
namespace Go.Proofs.YtngegnonblbdhaaDoor
set_option linter.unusedSimpArgs false
set_option linter.unusedVariables false
section
variable {m1 m2:List Int} {n1 n2:Nat}
end
section
variable {m1 m2:List Int} {n1 n2 L1 L2:Nat}
theorem y2b {m:List Int} {n L:Nat} (hp:PmOk m n) (h0: ¬(n=0/\L=0)) (k:Nat):1<=cN m n L k:=by
 unfold cN
 by_cases hn:0<n
 ·have:=yjl hp (chB k) hn;omega
 ·omega
end
end Go.Proofs.YtngegnonblbdhaaDoor
set_option linter.unusedSimpArgs false
set_option linter.unusedVariables false
namespace Go.Proofs.YtngegnonblbdhaaDoor
open Go Go.RowKit
set_option maxRecDepth 100000
set_option maxHeartbeats 8000000
theorem powN {a:Int} (h:a≠0): ∀k:Nat,a^k≠0
 |0=>by rw [Int.pow_zero];decide
 |k+1=>by rw [Int.pow_succ];exact Int.mul_ne_zero (powN h k) h
theorem yqo {m:List Int} {n L:Nat} (hp:PmOk m n) (hs:n<=9) (hL:L<=20):yas (brP m n L) (brT m n L 1):=yht fun e he=>ye9 hp hs hL (by omega) he
theorem y0k {m:List Int} {n L:Nat} (hp:PmOk m n) (hm:m.length=4*n) (h0: ¬(n=0/\L=0)) (hs:n<=9) (hL:L<=20):0<(brP m n L).length:=by
 have hP:=yqo hp hs hL
 have hev:evL (brP m n L)≠0:=by
  rw [←yqm 1000 (brP m n L) fun t ht=>ye9 hp hs hL (j:=1) (by omega) (hP.mem ht).2,show cfL (brP m n L)=brT m n L 1 from funext hP.cf]
  have h1:=y0j (K:=2^n) (c:=cN m n L) (w:=wB n) 1 1000 fun k _ hk=>by
   have a:=yrw hp (L:=L) k
   have b:=ye8 k n
   unfold wB;omega
  have h2:evF (brT m n L 1) 1000=sm (fun k=>(-2:Int)^(cN m n L k-1)) (2^n):=Eq.trans h1 (ybb fun k _=>by rw [if_pos (y2b hp h0 k)])
  rw [h2]
  by_cases hn:0<n
  ·rw [y2a hp hn L]
   exact Int.mul_ne_zero (powN (by decide) _) (powN (by decide) _)
  ·have hn0:n=0:=by omega
   subst hn0
   simp only [Nat.pow_zero,sm]
   rw [show (0:Int)+(-2)^(cN m 0 L 0-1)=(-2)^(cN m 0 L 0-1) by omega]
   exact powN (by decide) _
 cases h:brP m n L with
 |nil=>rw [h] at hev;exact absurd rfl hev
 |cons t p=>simp
end Go.Proofs.YtngegnonblbdhaaDoor
set_option linter.unusedSimpArgs false
set_option linter.unusedVariables false
namespace Go.Proofs.YtngegnonblbdhaaDoor
open Go Go.RowKit
set_option maxRecDepth 100000
set_option maxHeartbeats 8000000
def yuj:Tr:= .node [(0, .node [(1,trD [2,3,4,5,6]),(2,trD [1,3,4,5,6])]),(2,trD [0,1,3,4,5,6])]
def loG (p:List (Int×Int)):Int:=(p.getD 0 (0,0)).1
def hiG (p:List (Int×Int)):Int:=(p.getD (p.length-1) (0,0)).1
theorem y0l (p:List (Int×Int)):Fn Tryd.prog 19 [plA false p] (I (loG p)):=by
 by_cases h:0<p.length
 ·exact yn4 p h
 ·obtain rfl:p=[]:=List.eq_nil_of_length_eq_zero (by omega)
  refine Fn.intro [.tmp 2] Tryd.func19 rfl rfl (by decide) (by simp [Tryd.ntmps19]) ?_;rw [Tryd.ntmps19]
  repeat' (first|omega|(try apply yaa);simp only [go_sem,sevalprocAttr]|apply yab<;>(intro h_;(try simp only [h_]);revert h_)|apply And.intro|with_reducible intro h_|trivial|simp only [go_sem,la2];omega)
theorem yxg (p:List (Int×Int)) (hp:p.length<=1000000):Fn Tryd.prog 18 [plA false p] (I (hiG p)):=by
 by_cases h:0<p.length
 ·exact yla p h hp
 ·obtain rfl:p=[]:=List.eq_nil_of_length_eq_zero (by omega)
  refine Fn.intro [.tmp 2] Tryd.func18 rfl rfl (by decide) (by simp [Tryd.ntmps18]) ?_;rw [Tryd.ntmps18]
  repeat' (first|omega|(try apply yaa);simp only [go_sem,sevalprocAttr]|apply yab<;>(intro h_;(try simp only [h_]);revert h_)|apply And.intro|with_reducible intro h_|trivial|simp only [go_sem,la2];omega)
theorem yxh (s m:List Int) (L e:Int) (he:e≠0) (hB:Fn Tryd.prog 12 [dgA s m L] (.tup [plA false [],I e])):Fn Tryd.prog 8 [dgA s m L] (.tup [I 0,I e]):=by
 have be:(e !=0)=true:=by simpa using he
 refine Fn.intro [.tmp 2, .tmp 3] Tryd.func8 rfl rfl (by decide) (by simp [Tryd.ntmps8]) ?_;rw [Tryd.ntmps8]
 repeat' (first|omega|(try apply yaa);simp only [go_sem,sevalprocAttr]|apply yab<;>(intro h_;(try simp only [h_]);revert h_)|apply And.intro|with_reducible intro h_|trivial|simp only [go_sem,la2];omega)
 refine ⟨yad.fn rfl hB ?_⟩
 repeat' (first|omega|(try apply yaa);simp only [go_sem,sevalprocAttr,be]|apply yab<;>(intro h_;(try simp only [h_]);revert h_)|apply And.intro|with_reducible intro h_|trivial|simp only [go_sem,la2];omega)
theorem y0m (s m:List Int) (L:Int) (p:List (Int×Int)) (hp:p.length<=1000000) (hlo: -1000<=loG p/\loG p<=1000) (hhi: -1000<=hiG p/\hiG p<=1000) (hB:Fn Tryd.prog 12 [dgA s m L] (.tup [plA false p,I 0])):Fn Tryd.prog 8 [dgA s m L] (.tup [I (hiG p-loG p),I 0]):=by
 have hH:=yxg p hp
 have hL:=y0l p
 refine Fn.intro [.tmp 2, .tmp 3] Tryd.func8 rfl rfl (by decide) (by simp [Tryd.ntmps8]) ?_;rw [Tryd.ntmps8]
 repeat' (first|omega|(try apply yaa);simp only [go_sem,sevalprocAttr]|apply yab<;>(intro h_;(try simp only [h_]);revert h_)|apply And.intro|with_reducible intro h_|trivial|simp only [go_sem,la2];omega)
 refine ⟨yad.fn rfl hB ?_⟩
 repeat' (first|omega|(first|apply yaa|(refine yac.intro (id:=4) [[16],[16],[14,15],[],[],[],[]] [[],[],[0,1],[],[],[],[]] (by decide+kernel) mixed ?_)|(refine yac.introT (id:=4) (yuj) (by decide+kernel) mixed ?_)|skip);simp only [go_sem,sevalprocAttr,↓reduceIte,reduceCtorEq,yuj]|apply yab<;>(intro h_;(try simp only [h_]);revert h_)|apply And.intro|with_reducible intro h_|trivial|simp only [go_sem,la2];omega)
 refine ⟨yav.fn rfl hH ?_⟩
 simp only [go_sem,sevalprocAttr]
 refine ⟨yav.fn rfl hL ?_⟩
 simp only [go_sem,sevalprocAttr]
 repeat' (first|omega|(try apply yaa);simp only [go_sem,sevalprocAttr]|apply yab<;>(intro h_;(try simp only [h_]);revert h_)|apply And.intro|with_reducible intro h_|trivial|simp only [go_sem,la2];omega)
end Go.Proofs.YtngegnonblbdhaaDoor
namespace Go.Proofs.YtngegnonblbdhaaDoor
set_option linter.unusedSimpArgs false
set_option linter.unusedVariables false
set_option linter.unusedSectionVars false
namespace Sp
open Classical
section
variable {N:Nat} {si al si':Nat->Nat}
end
end Sp
section
variable {n:Nat} {f g:Nat->Nat} {m m':List Int}
end
end Go.Proofs.YtngegnonblbdhaaDoor
namespace Go.Proofs.YtngegnonblbdhaaDoor
set_option linter.unusedSimpArgs false
set_option linter.unusedVariables false
section
variable {m m':List Int} {n L:Nat}
end
theorem yuk (s:List Int) (c:Nat):outB s ((4*c:Nat):Int)=false/\outB s ((4*c+1:Nat):Int)=(s.getD c 0==1)/\outB s ((4*c+2:Nat):Int)=true/\outB s ((4*c+3:Nat):Int)=(s.getD c 0== -1):=by
 have e0:((4*c:Nat):Int)% 4=0:=by omega
 have e1:((4*c+1:Nat):Int)% 4=1:=by omega
 have e2:((4*c+2:Nat):Int)% 4=2:=by omega
 have e3:((4*c+3:Nat):Int)% 4=3:=by omega
 have d1:(((4*c+1:Nat):Int)/4).toNat=c:=by omega
 have d3:(((4*c+3:Nat):Int)/4).toNat=c:=by omega
 unfold outB
 rw [e0,e1,e2,e3,d1,d3]
 simp
section
variable {s m:List Int} {L:Int}
end
end Go.Proofs.YtngegnonblbdhaaDoor
namespace Go.Proofs.YtngegnonblbdhaaDoor
set_option linter.unusedSimpArgs false
set_option linter.unusedVariables false
namespace Sp
open Classical
section
variable {N n:Nat} {si al:Nat->Nat} {w g:Nat->Int}
structure Pot (N:Nat) (si al:Nat->Nat) (w g:Nat->Int):Prop where
 face: ∀x,x<N->g (si (al x))=g x
 edge: ∀x,x<N->g x-g (al x)=w x
theorem yxi {f:Nat->Nat} (hf:PermN N f) (h: ∀x,x<N->g (f x)=g x) {x y:Nat} (hx:x<N) (hs:SC f x y):g y=g x:=by
 obtain ⟨k,rfl⟩:=hs
 induction k with
 |zero=>rfl
 |succ k ih=>simp only [itn];rw [h _ (hf.itn_lt hx k),ih]
theorem Sph.pot_split (h:Sph N si al) {p q:Nat} (hp:p<N) (hq:q<N) (hpq:p≠q) (hsc:SC si p q) (hg:Pot N (swp si p q) al w g): ∃g',Pot N si al w g':=by
 have hs:=h.perm
 have ha:=h.mat
 have hs':=ydl hs hp hq
 have hE:=K_eqv hs ha
 have hE':=K_eqv hs' ha
 have hap:=ha.lt p hp
 have haq:=ha.lt q hq
 have hpm:=phK_perm hs ha N (Nat.le_refl _)
 have hpm':=phK_perm hs' ha N (Nat.le_refl _)
 have haa:al p≠al q:=fun e=>hpq (by rw [←ha.inv p hp,←ha.inv q hq,e])
 have hph: ∀x,x<N->swp (phK si al N) (al p) (al q) x=phK (swp si p q) al N x:=fun x hx=>by
  rw [ph_N ha hx]
  unfold swp
  have i1:=ha.inv x hx
  by_cases h1:x=al p
  ·subst h1
   rw [if_pos rfl,ha.inv p hp,if_pos rfl,ph_N ha haq,ha.inv q hq]
  ·rw [if_neg h1]
   have n1:al x≠p:=fun e=>h1 (by rw [←e,i1])
   by_cases h2:x=al q
   ·subst h2
    rw [if_pos rfl,ha.inv q hq,if_neg (Ne.symm hpq),if_pos rfl,ph_N ha hap,ha.inv p hp]
   ·rw [if_neg h2]
    have n2:al x≠q:=fun e=>h2 (by rw [←e,i1])
    rw [if_neg n1,if_neg n2,ph_N ha hx]
 have hswp:=ydl hpm hap haq
 have fin: ∀g',Pot N (swp si p q) al w g'->g' (al p)=g' (al q)->Pot N si al w g':=fun g' hg' he=>by
  refine ⟨fun x hx=>?_,hg'.edge⟩
  by_cases h1:al x=p
  ·have e:=hg'.face (al q) haq
   rw [ha.inv q hq] at e
   have:swp si p q q=si p:=by unfold swp;rw [if_neg (Ne.symm hpq),if_pos rfl]
   rw [this] at e
   rw [h1,e,←he,←h1,ha.inv x hx]
  ·by_cases h2:al x=q
   ·have e:=hg'.face (al p) hap
    rw [ha.inv p hp] at e
    have:swp si p q p=si q:=by unfold swp;rw [if_pos rfl]
    rw [this] at e
    rw [h2,e,he,←h2,ha.inv x hx]
   ·have e:=hg'.face x hx
    rwa [show swp si p q (al x)=si (al x) by unfold swp;rw [if_neg h1,if_neg h2]] at e
 have hcon: ∀g',Pot N (swp si p q) al w g'-> ∀x y,x<N->SC (phK (swp si p q) al N) x y->g' y=g' x:=fun g' hg' x y hx hxy=>yxi hpm' (fun z hz=>by rw [ph_N ha hz];exact hg'.face z hz) hx hxy
 by_cases hF:SC (phK si al N) (al p) (al q)
 ·--the parts are different components
  have hno: ¬SC (phK (swp si p q) al N) (al p) (al q):=fun e=>ydm hpm hap haa hF ((yck hswp hph hap).2 e)
  have hKpq:KK si al N p q:=K_sc hs ha hp hsc
  have hnK: ¬KK (swp si p q) al N p q:=fun hsame=>by
   have hvn:=ydm hs hp hpq hsc
   have hvj:=ybz hs' hp hq hvn
   rw [yeb] at hvj
   obtain ⟨lV,hV⟩:=Tr.exists (SC.eqv hs) (KK si al N p)
   obtain ⟨lF,hlF⟩:=Tr.exists (SC.eqv hpm) (KK si al N p)
   have heq:=h.eq p hp lV lF hV hlF
   obtain ⟨lV',hV'⟩:=Tr.exists (SC.eqv hs') (KK si al N p)
   obtain ⟨lF',hF'⟩:=Tr.exists (SC.eqv hpm') (KK si al N p)
   have hUp:KK si al N p p:=hE.rfl' _ hp
   have hv1:lV'.length=lV.length+1:=hV'.join (SC.eqv hs') hp hq hUp hKpq hvn (hV.congr hvj)
   have hUap:KK si al N p (al p):=K_al hs ha hp
   have hUaq:KK si al N p (al q):=hE.trans _ _ _ hp hq haq hKpq (K_al hs ha hq)
   have hF1:Tr N (KK si al N p) (SC (swp (phK si al N) (al p) (al q))) lF':=hF'.congr fun x y hx _=>(yck hswp hph hx).symm
   have hno':=ydm hpm hap haa hF
   have hj:=ybz hswp hap haq hno'
   rw [yeb] at hj
   have hf1:=hF1.join (SC.eqv hswp) hap haq hUap hUaq hno' (hlF.congr hj)
   have hsub: ∀x y,x<N->y<N->KK (swp si p q) al N x y->KK si al N x y:=fun x y hx hy hk=>by
    refine K_least hs' ha hE (fun x hx=>?_) (fun x hx=>K_al hs ha hx) hx hy hk
    unfold swp
    by_cases h1:x=p
    ·rw [if_pos h1,h1];exact hE.trans _ _ _ hp hq (hs.lt _ hq) hKpq (K_si hs ha hq)
    ·by_cases h2:x=q
     ·rw [if_neg h1,if_pos h2,h2];exact hE.trans _ _ _ hq hp (hs.lt _ hp) (hE.symm _ _ hp hq hKpq) (K_si hs ha hp)
     ·rw [if_neg h1,if_neg h2];exact K_si hs ha hx
   have hsup: ∀x y,x<N->y<N->KK si al N x y->KK (swp si p q) al N x y:=fun x y hx hy hk=>by
    refine K_least hs ha hE' (fun x hx=>?_) (fun x hx=>K_al hs' ha hx) hx hy hk
    by_cases h1:x=p
    ·have:=K_si hs' ha hq
     rw [show swp si p q q=si p by unfold swp;rw [if_neg (Ne.symm hpq),if_pos rfl]] at this
     rw [h1];exact hE'.trans _ _ _ hp hq (hs.lt _ hp) hsame this
    ·by_cases h2:x=q
     ·have:=K_si hs' ha hp
      rw [show swp si p q p=si q by unfold swp;rw [if_pos rfl]] at this
      rw [h2];exact hE'.trans _ _ _ hq hp (hs.lt _ hq) (hE'.symm _ _ hp hq hsame) this
     ·have:=K_si hs' ha hx
      rwa [show swp si p q x=si x by unfold swp;rw [if_neg h1,if_neg h2]] at this
   have hcl: ∀x,x<N->(KK si al N p x↔KK (swp si p q) al N p x):=fun x hx=>⟨hsup p x hp hx,hsub p x hp hx⟩
   have e1:=hV'.congrU hcl (E':=SC (swp si p q)) (fun _ _ _ _ _ _=>Iff.rfl)
   have e2:=hF'.congrU hcl (E':=SC (phK (swp si p q) al N)) (fun _ _ _ _ _ _=>Iff.rfl)
   have e3:eU al (KK si al N p) N=eU al (KK (swp si p q) al N p) N:=yec fun x hx=>by rw [hcl x hx]
   have e4:=ykt hs' ha hp e1 e2
   omega
  refine ⟨fun z=>if KK (swp si p q) al N q z then g z+(g (al p)-g (al q)) else g z,fin _ ⟨fun x hx=>?_,fun x hx=>?_⟩ ?_⟩
  ·have hax:=ha.lt x hx
   have hcl:=K_cl hs' ha hq
   have e:KK (swp si p q) al N q (swp si p q (al x))↔KK (swp si p q) al N q x:=by rw [←hcl.1 _ hax,←hcl.2 _ hx]
   by_cases hk:KK (swp si p q) al N q x
   ·rw [if_pos hk,if_pos (e.2 hk),hg.face x hx]
   ·rw [if_neg hk,if_neg fun e'=>hk (e.1 e'),hg.face x hx]
  ·have e:=(K_cl hs' ha hq).2 x hx
   have:=hg.edge x hx
   by_cases hk:KK (swp si p q) al N q x
   ·rw [if_pos hk,if_pos (e.1 hk)];omega
   ·rw [if_neg hk,if_neg fun e'=>hk (e.2 e')];exact this
  ·have e1: ¬KK (swp si p q) al N q (al p):=fun e=>hnK (hE'.symm _ _ hq hp (hE'.trans _ _ _ hq hap hp e (hE'.symm _ _ hp hap (K_al hs' ha hp))))
   rw [if_neg e1,if_pos (K_al hs' ha hq)];omega
 ·--one face behind the parting
  refine ⟨g,fin g hg ?_⟩
  have hj:=ybz hpm hap haq hF
  have:SC (phK (swp si p q) al N) (al p) (al q):=(yck hswp hph hap).1 ((hj _ _ hap haq).2 (.inr (.inl ⟨.refl _ _, .refl _ _⟩)))
  exact (hcon g hg _ _ hap this).symm
def nbt (b:Bool):Nat:=if b then 1 else 0
def jnN (b:Bool) (x:Nat):Nat:=if b then x-x % 4+(3-x % 4) else if x % 2=0 then x+1 else x-1
def siK (b:Nat->Bool) (k x:Nat):Nat:=if x/4<k then jnN (b (x/4)) x else siD x
theorem yop (b:Nat->Bool):siK b 0=siD:=funext fun x=>by unfold siK;rw [if_neg (by omega)]
theorem yoq (b:Nat->Bool) (k:Nat):siK b (k+1)=swp (siK b k) (4*k+nbt (b k)) (4*k+nbt (b k)+2):=funext fun x=>by
 unfold siK swp
 by_cases h:x/4=k
 ·have e:x=4*k\/x=4*k+1\/x=4*k+2\/x=4*k+3:=by omega
  rw [if_pos (by omega),h]
  cases hb:b k with
  |false=>
   simp only [nbt,jnN,siD,Bool.false_eq_true,if_false]
   rcases e with rfl|rfl|rfl|rfl
   ·rw [if_pos (by omega),if_pos (by omega),if_neg (by omega)];omega
   ·rw [if_neg (by omega),if_neg (by omega),if_neg (by omega),if_neg (by omega)];omega
   ·rw [if_pos (by omega),if_neg (by omega),if_pos (by omega),if_neg (by omega)];omega
   ·rw [if_neg (by omega),if_neg (by omega),if_neg (by omega),if_neg (by omega)];omega
  |true=>
   simp only [nbt,jnN,siD,if_true]
   rcases e with rfl|rfl|rfl|rfl
   ·rw [if_neg (by omega),if_neg (by omega),if_neg (by omega)];omega
   ·rw [if_pos (by omega),if_neg (by omega)];omega
   ·rw [if_neg (by omega),if_neg (by omega),if_neg (by omega)];omega
   ·rw [if_neg (by omega),if_pos (by omega),if_neg (by omega)];omega
 ·have h1:x≠4*k+nbt (b k)/\x≠4*k+nbt (b k)+2:=by unfold nbt;split<;>omega
  rw [if_neg h1.1,if_neg h1.2]
  show (if x/4<k+1 then jnN (b (x/4)) x else siD x)=if x/4<k then jnN (b (x/4)) x else siD x
  by_cases h2:x/4<k
  ·rw [if_pos (by omega),if_pos h2]
  ·rw [if_neg (by omega),if_neg h2]
theorem yul (b:Nat->Bool) (k:Nat):SC (siK b k) (4*k+nbt (b k)) (4*k+nbt (b k)+2):=by
 have key: ∀x,x/4=k->siK b k x=siD x:=fun x hx=>by unfold siK;rw [if_neg (by omega)]
 have h1:(4*k+nbt (b k))/4=k:=by unfold nbt;split<;>omega
 refine ⟨2,?_⟩
 simp only [itn]
 rw [key _ h1,key _ (by rw [siD_div];exact h1)]
 unfold siD nbt
 split<;>omega
theorem Sph.smK (h:Sph (4*n) siD al) (b:Nat->Bool): ∀k,k<=n->Sph (4*n) (siK b k) al
 |0,_=>by rw [yop];exact h
 |k+1,hk=>by
  rw [yoq]
  have:nbt (b k)<=1:=by unfold nbt;split<;>omega
  exact (h.smK b k (by omega)).split (by omega) (by omega) (by omega) (yul b k)
theorem Sph.pot (h:Sph (4*n) siD al) (o:Nat->Int) (h1: ∀x,x<4*n->o x=1\/o x= -1) (h2: ∀x,x<4*n->o (al x)= -o x) (h3: ∀c,c<n->o (4*c+2)= -o (4*c)/\o (4*c+3)= -o (4*c+1)): ∃g,Pot (4*n) siD al o g:=by
 obtain ⟨b,hb⟩: ∃b:Nat->Bool,b=fun c=>decide (o (4*c+1)=o (4*c)):=⟨_,rfl⟩
 have hfl: ∀x,x<4*n->o (jnN (b (x/4)) x)= -o x:=fun x hx=>by
  have e:x=4*(x/4)\/x=4*(x/4)+1\/x=4*(x/4)+2\/x=4*(x/4)+3:=by omega
  have hc:x/4<n:=by omega
  generalize x/4=c at*
  obtain ⟨k1,k2⟩:=h3 c hc
  have o0:=h1 (4*c) (by omega)
  have o1:=h1 (4*c+1) (by omega)
  by_cases hbc:o (4*c+1)=o (4*c)
  ·rw [show b c=true by rw [hb];exact decide_eq_true hbc]
   simp only [jnN,if_true]
   rcases e with rfl|rfl|rfl|rfl
   ·rw [show 4*c-4*c % 4+(3-4*c % 4)=4*c+3 by omega];omega
   ·rw [show 4*c+1-(4*c+1)% 4+(3-(4*c+1)% 4)=4*c+2 by omega];omega
   ·rw [show 4*c+2-(4*c+2)% 4+(3-(4*c+2)% 4)=4*c+1 by omega];omega
   ·rw [show 4*c+3-(4*c+3)% 4+(3-(4*c+3)% 4)=4*c by omega];omega
  ·rw [show b c=false by rw [hb];exact decide_eq_false hbc]
   simp only [jnN,Bool.false_eq_true,if_false]
   rcases e with rfl|rfl|rfl|rfl
   ·rw [if_pos (by omega)];omega
   ·rw [if_neg (by omega),show 4*c+1-1=4*c by omega];omega
   ·rw [if_pos (by omega),show 4*c+2+1=4*c+3 by omega];omega
   ·rw [if_neg (by omega),show 4*c+3-1=4*c+2 by omega];omega
 have key: ∀d,d<=n-> ∃g,Pot (4*n) (siK b (n-d)) al o g:=fun d=>by
  induction d with
  |zero=>
   intro _
   refine ⟨fun x=>if o x=1 then 1 else 0,fun x hx=>?_,fun x hx=>?_⟩
   ·have hax:=h.mat.lt x hx
    have e1:siK b (n-0) (al x)=jnN (b (al x/4)) (al x):=by unfold siK;rw [if_pos (by omega)]
    have e2:=hfl _ hax
    have e3:=h2 x hx
    rw [e1,e2,e3]
    rcases h1 x hx with e|e<;>rw [e]<;>decide
   ·have e3:=h2 x hx
    show (if o x=1 then (1:Int) else 0)-(if o (al x)=1 then 1 else 0)=o x
    rw [e3]
    rcases h1 x hx with e|e<;>rw [e]<;>decide
  |succ d ih=>
   intro hd
   obtain ⟨g,hg⟩:=ih (by omega)
   rw [show n-d=(n-(d+1))+1 by omega,yoq] at hg
   have:nbt (b (n-(d+1)))<=1:=by unfold nbt;split<;>omega
   exact (h.smK b (n-(d+1)) (by omega)).pot_split (by omega) (by omega) (by omega) (yul b _) hg
 have:=key n (Nat.le_refl _)
 rwa [Nat.sub_self,yop] at this
end
end Sp
end Go.Proofs.YtngegnonblbdhaaDoor
namespace Go.Proofs.YtngegnonblbdhaaDoor
set_option linter.unusedSimpArgs false
set_option linter.unusedVariables false
section
variable {s m:List Int} {L:Int} (v:yhq s m L)
include v
end
end Go.Proofs.YtngegnonblbdhaaDoor
namespace Go.Proofs.YtngegnonblbdhaaDoor
set_option linter.unusedSimpArgs false
set_option linter.unusedVariables false
open Classical
section
variable {s m:List Int} {L:Int} (v:yhq s m L)
def op2 (x:Nat):Nat:=x-x % 4+(x % 4+2)% 4
include v
end
section
variable {s m:List Int} {L:Int} (hv:yao s m L=true)
include hv
end
end Go.Proofs.YtngegnonblbdhaaDoor
