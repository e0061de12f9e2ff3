/- Plain: on the sphere, an orientation of the strands comes of a potential on the faces. -/
import Derived.Test.YtcnilhcplgiidaaDoorSq
import Derived.Test.YtcnilhcplgiidaaDoorZm
namespace Go.Proofs.YtcnilhcplgiidaaDoor
set_option linter.unusedSimpArgs false
set_option linter.unusedVariables false
namespace Sp
open Classical
section
variable {N n:Nat} {si al:Nat->Nat} {w g:Nat->Int}
structure Pot (N:Nat) (si al:Nat->Nat) (w g:Nat->Int):Prop where
 face: ∀x,x<N->g (si (al x))=g x
 edge: ∀x,x<N->g x-g (al x)=w x
theorem ywk {f:Nat->Nat} (hf:PermN N f) (h: ∀x,x<N->g (f x)=g x) {x y:Nat} (hx:x<N) (hs:SC f x y):g y=g x:=by
 obtain ⟨k,rfl⟩:=hs
 induction k with
 |zero=>rfl
 |succ k ih=>simp only [itn];rw [h _ (hf.itn_lt hx k),ih]
theorem Sph.pot_split (h:Sph N si al) {p q:Nat} (hp:p<N) (hq:q<N) (hpq:p≠q) (hsc:SC si p q) (hg:Pot N (swp si p q) al w g): ∃g',Pot N si al w g':=by
 have hs:=h.perm
 have ha:=h.mat
 have hs':=swp_perm hs hp hq
 have hE:=yc6 hs ha
 have hE':=yc6 hs' ha
 have hap:=ha.lt p hp
 have haq:=ha.lt q hq
 have hpm:=ybq hs ha N (Nat.le_refl _)
 have hpm':=ybq hs' ha N (Nat.le_refl _)
 have haa:al p≠al q:=fun e=>hpq (by rw [←ha.inv p hp,←ha.inv q hq,e])
 have hph: ∀x,x<N->swp (phK si al N) (al p) (al q) x=phK (swp si p q) al N x:=fun x hx=>by
  rw [ph_N ha hx]
  unfold swp
  have i1:=ha.inv x hx
  by_cases h1:x=al p
  ·subst h1
   rw [if_pos rfl,ha.inv p hp,if_pos rfl,ph_N ha haq,ha.inv q hq]
  ·rw [if_neg h1]
   have n1:al x≠p:=fun e=>h1 (by rw [←e,i1])
   by_cases h2:x=al q
   ·subst h2
    rw [if_pos rfl,ha.inv q hq,if_neg (Ne.symm hpq),if_pos rfl,ph_N ha hap,ha.inv p hp]
   ·rw [if_neg h2]
    have n2:al x≠q:=fun e=>h2 (by rw [←e,i1])
    rw [if_neg n1,if_neg n2,ph_N ha hx]
 have hswp:=swp_perm hpm hap haq
 have fin: ∀g',Pot N (swp si p q) al w g'->g' (al p)=g' (al q)->Pot N si al w g':=fun g' hg' he=>by
  refine ⟨fun x hx=>?_,hg'.edge⟩
  by_cases h1:al x=p
  ·have e:=hg'.face (al q) haq
   rw [ha.inv q hq] at e
   have:swp si p q q=si p:=by unfold swp;rw [if_neg (Ne.symm hpq),if_pos rfl]
   rw [this] at e
   rw [h1,e,←he,←h1,ha.inv x hx]
  ·by_cases h2:al x=q
   ·have e:=hg'.face (al p) hap
    rw [ha.inv p hp] at e
    have:swp si p q p=si q:=by unfold swp;rw [if_pos rfl]
    rw [this] at e
    rw [h2,e,he,←h2,ha.inv x hx]
   ·have e:=hg'.face x hx
    rwa [show swp si p q (al x)=si (al x) by unfold swp;rw [if_neg h1,if_neg h2]] at e
 have hcon: ∀g',Pot N (swp si p q) al w g'-> ∀x y,x<N->SC (phK (swp si p q) al N) x y->g' y=g' x:=fun g' hg' x y hx hxy=>ywk hpm' (fun z hz=>by rw [ph_N ha hz];exact hg'.face z hz) hx hxy
 by_cases hF:SC (phK si al N) (al p) (al q)
 ·--the parts are different components
  have hno: ¬SC (phK (swp si p q) al N) (al p) (al q):=fun e=>swp_part hpm hap haa hF ((SC_congr hswp hph hap).2 e)
  have hKpq:KK si al N p q:=K_sc hs ha hp hsc
  have hnK: ¬KK (swp si p q) al N p q:=fun hsame=>by
   have hvn:=swp_part hs hp hpq hsc
   have hvj:=swp_join hs' hp hq hvn
   rw [swp_swp] at hvj
   obtain ⟨lV,hV⟩:=Tr.exists (SC.eqv hs) (KK si al N p)
   obtain ⟨lF,hlF⟩:=Tr.exists (SC.eqv hpm) (KK si al N p)
   have heq:=h.eq p hp lV lF hV hlF
   obtain ⟨lV',hV'⟩:=Tr.exists (SC.eqv hs') (KK si al N p)
   obtain ⟨lF',hF'⟩:=Tr.exists (SC.eqv hpm') (KK si al N p)
   have hUp:KK si al N p p:=hE.rfl' _ hp
   have hv1:lV'.length=lV.length+1:=hV'.join (SC.eqv hs') hp hq hUp hKpq hvn (hV.congr hvj)
   have hUap:KK si al N p (al p):=K_al hs ha hp
   have hUaq:KK si al N p (al q):=hE.trans _ _ _ hp hq haq hKpq (K_al hs ha hq)
   have hF1:Tr N (KK si al N p) (SC (swp (phK si al N) (al p) (al q))) lF':=hF'.congr fun x y hx _=>(SC_congr hswp hph hx).symm
   have hno':=swp_part hpm hap haa hF
   have hj:=swp_join hswp hap haq hno'
   rw [swp_swp] at hj
   have hf1:=hF1.join (SC.eqv hswp) hap haq hUap hUaq hno' (hlF.congr hj)
   have hsub: ∀x y,x<N->y<N->KK (swp si p q) al N x y->KK si al N x y:=fun x y hx hy hk=>by
    refine ycj hs' ha hE (fun x hx=>?_) (fun x hx=>K_al hs ha hx) hx hy hk
    unfold swp
    by_cases h1:x=p
    ·rw [if_pos h1,h1];exact hE.trans _ _ _ hp hq (hs.lt _ hq) hKpq (K_si hs ha hq)
    ·by_cases h2:x=q
     ·rw [if_neg h1,if_pos h2,h2];exact hE.trans _ _ _ hq hp (hs.lt _ hp) (hE.symm _ _ hp hq hKpq) (K_si hs ha hp)
     ·rw [if_neg h1,if_neg h2];exact K_si hs ha hx
   have hsup: ∀x y,x<N->y<N->KK si al N x y->KK (swp si p q) al N x y:=fun x y hx hy hk=>by
    refine ycj hs ha hE' (fun x hx=>?_) (fun x hx=>K_al hs' ha hx) hx hy hk
    by_cases h1:x=p
    ·have:=K_si hs' ha hq
     rw [show swp si p q q=si p by unfold swp;rw [if_neg (Ne.symm hpq),if_pos rfl]] at this
     rw [h1];exact hE'.trans _ _ _ hp hq (hs.lt _ hp) hsame this
    ·by_cases h2:x=q
     ·have:=K_si hs' ha hp
      rw [show swp si p q p=si q by unfold swp;rw [if_pos rfl]] at this
      rw [h2];exact hE'.trans _ _ _ hq hp (hs.lt _ hq) (hE'.symm _ _ hp hq hsame) this
     ·have:=K_si hs' ha hx
      rwa [show swp si p q x=si x by unfold swp;rw [if_neg h1,if_neg h2]] at this
   have hcl: ∀x,x<N->(KK si al N p x↔KK (swp si p q) al N p x):=fun x hx=>⟨hsup p x hp hx,hsub p x hp hx⟩
   have e1:=hV'.congrU hcl (E':=SC (swp si p q)) (fun _ _ _ _ _ _=>Iff.rfl)
   have e2:=hF'.congrU hcl (E':=SC (phK (swp si p q) al N)) (fun _ _ _ _ _ _=>Iff.rfl)
   have e3:eU al (KK si al N p) N=eU al (KK (swp si p q) al N p) N:=ydo fun x hx=>by rw [hcl x hx]
   have e4:=ykb hs' ha hp e1 e2
   omega
  refine ⟨fun z=>if KK (swp si p q) al N q z then g z+(g (al p)-g (al q)) else g z,fin _ ⟨fun x hx=>?_,fun x hx=>?_⟩ ?_⟩
  ·have hax:=ha.lt x hx
   have hcl:=K_cl hs' ha hq
   have e:KK (swp si p q) al N q (swp si p q (al x))↔KK (swp si p q) al N q x:=by rw [←hcl.1 _ hax,←hcl.2 _ hx]
   by_cases hk:KK (swp si p q) al N q x
   ·rw [if_pos hk,if_pos (e.2 hk),hg.face x hx]
   ·rw [if_neg hk,if_neg fun e'=>hk (e.1 e'),hg.face x hx]
  ·have e:=(K_cl hs' ha hq).2 x hx
   have:=hg.edge x hx
   by_cases hk:KK (swp si p q) al N q x
   ·rw [if_pos hk,if_pos (e.1 hk)];omega
   ·rw [if_neg hk,if_neg fun e'=>hk (e.2 e')];exact this
  ·have e1: ¬KK (swp si p q) al N q (al p):=fun e=>hnK (hE'.symm _ _ hq hp (hE'.trans _ _ _ hq hap hp e (hE'.symm _ _ hp hap (K_al hs' ha hp))))
   rw [if_neg e1,if_pos (K_al hs' ha hq)];omega
 ·--one face behind the parting
  refine ⟨g,fin g hg ?_⟩
  have hj:=swp_join hpm hap haq hF
  have:SC (phK (swp si p q) al N) (al p) (al q):=(SC_congr hswp hph hap).1 ((hj _ _ hap haq).2 (.inr (.inl ⟨.refl _ _, .refl _ _⟩)))
  exact (hcon g hg _ _ hap this).symm
def nbt (b:Bool):Nat:=if b then 1 else 0
def jnN (b:Bool) (x:Nat):Nat:=if b then x-x % 4+(3-x % 4) else if x % 2=0 then x+1 else x-1
def siK (b:Nat->Bool) (k x:Nat):Nat:=if x/4<k then jnN (b (x/4)) x else siD x
theorem yn4 (b:Nat->Bool):siK b 0=siD:=funext fun x=>by unfold siK;rw [if_neg (by omega)]
theorem yn5 (b:Nat->Bool) (k:Nat):siK b (k+1)=swp (siK b k) (4*k+nbt (b k)) (4*k+nbt (b k)+2):=funext fun x=>by
 unfold siK swp
 by_cases h:x/4=k
 ·have e:x=4*k\/x=4*k+1\/x=4*k+2\/x=4*k+3:=by omega
  rw [if_pos (by omega),h]
  cases hb:b k with
  |false=>
   simp only [nbt,jnN,siD,Bool.false_eq_true,if_false]
   rcases e with rfl|rfl|rfl|rfl
   ·rw [if_pos (by omega),if_pos (by omega),if_neg (by omega)];omega
   ·rw [if_neg (by omega),if_neg (by omega),if_neg (by omega),if_neg (by omega)];omega
   ·rw [if_pos (by omega),if_neg (by omega),if_pos (by omega),if_neg (by omega)];omega
   ·rw [if_neg (by omega),if_neg (by omega),if_neg (by omega),if_neg (by omega)];omega
  |true=>
   simp only [nbt,jnN,siD,if_true]
   rcases e with rfl|rfl|rfl|rfl
   ·rw [if_neg (by omega),if_neg (by omega),if_neg (by omega)];omega
   ·rw [if_pos (by omega),if_neg (by omega)];omega
   ·rw [if_neg (by omega),if_neg (by omega),if_neg (by omega)];omega
   ·rw [if_neg (by omega),if_pos (by omega),if_neg (by omega)];omega
 ·have h1:x≠4*k+nbt (b k)/\x≠4*k+nbt (b k)+2:=by unfold nbt;split<;>omega
  rw [if_neg h1.1,if_neg h1.2]
  show (if x/4<k+1 then jnN (b (x/4)) x else siD x)=if x/4<k then jnN (b (x/4)) x else siD x
  by_cases h2:x/4<k
  ·rw [if_pos (by omega),if_pos h2]
  ·rw [if_neg (by omega),if_neg h2]
theorem ytz (b:Nat->Bool) (k:Nat):SC (siK b k) (4*k+nbt (b k)) (4*k+nbt (b k)+2):=by
 have key: ∀x,x/4=k->siK b k x=siD x:=fun x hx=>by unfold siK;rw [if_neg (by omega)]
 have h1:(4*k+nbt (b k))/4=k:=by unfold nbt;split<;>omega
 refine ⟨2,?_⟩
 simp only [itn]
 rw [key _ h1,key _ (by rw [ye8];exact h1)]
 unfold siD nbt
 split<;>omega
theorem Sph.smK (h:Sph (4*n) siD al) (b:Nat->Bool): ∀k,k<=n->Sph (4*n) (siK b k) al
 |0,_=>by rw [yn4];exact h
 |k+1,hk=>by
  rw [yn5]
  have:nbt (b k)<=1:=by unfold nbt;split<;>omega
  exact (h.smK b k (by omega)).split (by omega) (by omega) (by omega) (ytz b k)
theorem Sph.pot (h:Sph (4*n) siD al) (o:Nat->Int) (h1: ∀x,x<4*n->o x=1\/o x= -1) (h2: ∀x,x<4*n->o (al x)= -o x) (h3: ∀c,c<n->o (4*c+2)= -o (4*c)/\o (4*c+3)= -o (4*c+1)): ∃g,Pot (4*n) siD al o g:=by
 obtain ⟨b,hb⟩: ∃b:Nat->Bool,b=fun c=>decide (o (4*c+1)=o (4*c)):=⟨_,rfl⟩
 have hfl: ∀x,x<4*n->o (jnN (b (x/4)) x)= -o x:=fun x hx=>by
  have e:x=4*(x/4)\/x=4*(x/4)+1\/x=4*(x/4)+2\/x=4*(x/4)+3:=by omega
  have hc:x/4<n:=by omega
  generalize x/4=c at*
  obtain ⟨k1,k2⟩:=h3 c hc
  have o0:=h1 (4*c) (by omega)
  have o1:=h1 (4*c+1) (by omega)
  by_cases hbc:o (4*c+1)=o (4*c)
  ·rw [show b c=true by rw [hb];exact decide_eq_true hbc]
   simp only [jnN,if_true]
   rcases e with rfl|rfl|rfl|rfl
   ·rw [show 4*c-4*c % 4+(3-4*c % 4)=4*c+3 by omega];omega
   ·rw [show 4*c+1-(4*c+1)% 4+(3-(4*c+1)% 4)=4*c+2 by omega];omega
   ·rw [show 4*c+2-(4*c+2)% 4+(3-(4*c+2)% 4)=4*c+1 by omega];omega
   ·rw [show 4*c+3-(4*c+3)% 4+(3-(4*c+3)% 4)=4*c by omega];omega
  ·rw [show b c=false by rw [hb];exact decide_eq_false hbc]
   simp only [jnN,Bool.false_eq_true,if_false]
   rcases e with rfl|rfl|rfl|rfl
   ·rw [if_pos (by omega)];omega
   ·rw [if_neg (by omega),show 4*c+1-1=4*c by omega];omega
   ·rw [if_pos (by omega),show 4*c+2+1=4*c+3 by omega];omega
   ·rw [if_neg (by omega),show 4*c+3-1=4*c+2 by omega];omega
 have key: ∀d,d<=n-> ∃g,Pot (4*n) (siK b (n-d)) al o g:=fun d=>by
  induction d with
  |zero=>
   intro _
   refine ⟨fun x=>if o x=1 then 1 else 0,fun x hx=>?_,fun x hx=>?_⟩
   ·have hax:=h.mat.lt x hx
    have e1:siK b (n-0) (al x)=jnN (b (al x/4)) (al x):=by unfold siK;rw [if_pos (by omega)]
    have e2:=hfl _ hax
    have e3:=h2 x hx
    rw [e1,e2,e3]
    rcases h1 x hx with e|e<;>rw [e]<;>decide
   ·have e3:=h2 x hx
    show (if o x=1 then (1:Int) else 0)-(if o (al x)=1 then 1 else 0)=o x
    rw [e3]
    rcases h1 x hx with e|e<;>rw [e]<;>decide
  |succ d ih=>
   intro hd
   obtain ⟨g,hg⟩:=ih (by omega)
   rw [show n-d=(n-(d+1))+1 by omega,yn5] at hg
   have:nbt (b (n-(d+1)))<=1:=by unfold nbt;split<;>omega
   exact (h.smK b (n-(d+1)) (by omega)).pot_split (by omega) (by omega) (by omega) (ytz b _) hg
 have:=key n (Nat.le_refl _)
 rwa [Nat.sub_self,yn4] at this
end
end Sp
end Go.Proofs.YtcnilhcplgiidaaDoor
namespace Go.Proofs.YtcnilhcplgiidaaDoor
set_option linter.unusedSimpArgs false
set_option linter.unusedVariables false
section
variable {s m:List Int} {L:Int} (v:ybj s m L)
abbrev strK (s m:List Int) (k:Nat):List Int:=(yae s m).getD k []
include v
theorem ybx {x:Nat} (hx:x<4*s.length):(∀y,y∈orbF (yah m) m.length x↔ ∃j,it (yah m) j x=y)/\(∀y∈orbF (yah m) m.length x,InR s.length y)/\(∀y∈orbF (yah m) m.length x,(x:Int)∈orbF (yah m) m.length y)/\
  (∀y∈orbF (yah m) m.length x,∀z∈orbF (yah m) m.length y,z∈orbF (yah m) m.length x)/\(x:Int)∈orbF (yah m) m.length x/\(orbF (yah m) m.length x).Nodup/\ ∃k,Per (yah m) x k/\orbF (yah m) m.length x=its (yah m) x k:=by
 have:=yb2 (yb5 v.prd) (x:=(x:Int)) (by unfold InR;omega)
 rw [←v.len] at this
 obtain ⟨a,b,c,d,e,_,f,k,_,g,h⟩:=this
 exact ⟨a,b,c,d,e,f,k,g,h⟩
theorem yjf:yae s m=((List.range m.length).filter fun i:Nat=>outB s i&&ydw i (orbF (yah m) m.length i)).map (fun i:Nat=>orbF (yah m) m.length i):=by
 have hl:=v.len
 exact (ykp (N:=m.length) (want:=outB s) (orb:=orbF (yah m) m.length) (fun x hx _ y hy=>by
  have:=(ybx v (x:=x) (by omega)).2.1 y hy
  unfold InR at this;omega) (fun x hx _=>(ybx v (x:=x) (by omega)).2.2.2.2.1) (fun x y hx hy hw hm=>by
  have h:=ybx v (x:=x) (by omega)
  refine ⟨?_,h.2.2.1 y hm⟩
  obtain ⟨j,hj⟩:=(h.1 y).1 hm
  rw [←hj,yea v (by omega) j];exact hw) (fun x y z hx hy hz _ h1 h2=>(ybx v (x:=x) (by omega)).2.2.2.1 y h1 z h2) m.length (Nat.le_refl _)).1
theorem yer {k:Nat} (hk:k<(yae s m).length): ∃x:Nat,x<4*s.length/\outB s x=true/\(∀y∈orbF (yah m) m.length x,(x:Int)<=y)/\strK s m k=orbF (yah m) m.length x:=by
 have hl:=v.len
 have e:=yjf v
 have hm:strK s m k∈yae s m:=by simp [strK,hk]
 rw [e] at hm
 obtain ⟨x,h1,h2⟩:=List.mem_map.1 hm
 obtain ⟨h3,h4⟩:=List.mem_filter.1 h1
 rw [Bool.and_eq_true] at h4
 exact ⟨x,by have:=List.mem_range.1 h3;omega,h4.1,ybh.1 h4.2,h2.symm⟩
theorem yeb {k:Nat} (hk:k<(yae s m).length) {y:Int} (hy:y∈strK s m k):InR s.length y/\outB s y=true:=by
 obtain ⟨x,h1,h2,_,h3⟩:=yer v hk
 rw [h3] at hy
 have h:=ybx v h1
 obtain ⟨j,hj⟩:=(h.1 y).1 hy
 exact ⟨h.2.1 y hy,by rw [←hj,yea v h1 j];exact h2⟩
theorem ykg {y:Nat} (hy:y<4*s.length) (ho:outB s y=true): ∃k,k<(yae s m).length/\(y:Int)∈strK s m k:=by
 have hl:=v.len
 have h:=ybx v hy
 have hle: ∃x:Nat,(x:Int)∈orbF (yah m) m.length y/\ ∀z∈orbF (yah m) m.length y,(x:Int)<=z:=by
  have key: ∀d x:Nat,x<d->(x:Int)∈orbF (yah m) m.length y-> ∃x:Nat,(x:Int)∈orbF (yah m) m.length y/\ ∀z∈orbF (yah m) m.length y,(x:Int)<=z:=fun d=>by
   induction d with
   |zero=>intro x hx;omega
   |succ d ih=>
    intro x hx hm
    by_cases hz: ∃z∈orbF (yah m) m.length y,z<(x:Int)
    ·obtain ⟨z,z1,z2⟩:=hz
     have:=h.2.1 z z1
     unfold InR at this
     exact ih z.toNat (by omega) (by rw [show ((z.toNat:Nat):Int)=z by omega];exact z1)
    ·exact ⟨x,hm,fun z hz'=>by
      apply Classical.byContradiction
      intro hn
      exact hz ⟨z,hz',by omega⟩⟩
  exact key (y+1) y (by omega) h.2.2.2.2.1
 obtain ⟨x,x1,x2⟩:=hle
 have hxr:=h.2.1 x x1
 unfold InR at hxr
 have hx:=ybx v (x:=x) (by omega)
 obtain ⟨j,hj⟩:=(h.1 x).1 x1
 have hox:outB s (x:Int)=true:=by rw [←hj,yea v hy j];exact ho
 have hyx:=h.2.2.1 x x1
 have hmem:orbF (yah m) m.length (x:Int)∈yae s m:=by
  rw [yjf v]
  refine List.mem_map.2 ⟨x,List.mem_filter.2 ⟨List.mem_range.2 (by omega),?_⟩,rfl⟩
  rw [Bool.and_eq_true]
  exact ⟨hox,ybh.2 fun z hz=>x2 z (h.2.2.2.1 x x1 z hz)⟩
 obtain ⟨k,hk,e⟩:=List.mem_iff_getElem.1 hmem
 exact ⟨k,hk,by simp only [strK,List.getD_eq_getElem?_getD,List.getElem?_eq_getElem hk,Option.getD_some,e];exact hyx⟩
theorem yc9 {k k':Nat} (hk:k<(yae s m).length) (hk':k'<(yae s m).length) {y:Int} (hy:y∈strK s m k) (hy':y∈strK s m k'):k=k':=by
 have hl:=v.len
 have hn:(yae s m).Nodup:=by
  rw [yjf v]
  rw [List.nodup_iff_pairwise_ne,List.pairwise_map]
  refine (List.nodup_iff_pairwise_ne.1 (List.nodup_range.filter _)).imp_of_mem fun {a b} ha hb hne e=>hne ?_
  obtain ⟨a1,a2⟩:=List.mem_filter.1 ha
  obtain ⟨b1,b2⟩:=List.mem_filter.1 hb
  rw [Bool.and_eq_true] at a2 b2
  have a3:=List.mem_range.1 a1
  have b3:=List.mem_range.1 b1
  have:=ybh.1 a2.2 b (by rw [e];exact (ybx v (x:=b) (by omega)).2.2.2.2.1)
  have:=ybh.1 b2.2 a (by rw [←e];exact (ybx v (x:=a) (by omega)).2.2.2.2.1)
  omega
 obtain ⟨x,x1,x2,x3,x4⟩:=yer v hk
 obtain ⟨z,z1,z2,z3,z4⟩:=yer v hk'
 rw [x4] at hy
 rw [z4] at hy'
 have hx:=ybx v x1
 have hz:=ybx v z1
 have hyr:=hx.2.1 y hy
 unfold InR at hyr
 have hzy:=hz.2.2.1 y hy'
 have hxy:=hx.2.2.1 y hy
 have q1:=x3 z (hx.2.2.2.1 y hy z hzy)
 have q2:=z3 x (hz.2.2.2.1 y hy' x hxy)
 have e:x=z:=by omega
 subst e
 have e2:(yae s m)[k]'hk=(yae s m)[k']'hk':=by
  have f1:strK s m k=(yae s m)[k]'hk:=by simp [strK,hk]
  have f2:strK s m k'=(yae s m)[k']'hk':=by simp [strK,hk']
  rw [←f1,←f2,x4,z4]
 exact (List.getElem_inj hn).1 e2
theorem yn6 {k:Nat} (hk:k<(yae s m).length) {z:Nat} (hz:z<4*s.length):(z:Int)∈strK s m k↔yah m z∈strK s m k:=by
 obtain ⟨x,x1,x2,x3,x4⟩:=yer v hk
 rw [x4]
 have hx:=ybx v x1
 have hzf:=ybx v hz
 constructor
 ·intro h
  obtain ⟨j,hj⟩:=(hx.1 _).1 h
  exact (hx.1 _).2 ⟨j+1,by show yah m (it (yah m) j x)=_;rw [hj]⟩
 ·intro h
  have h1:yah m z∈orbF (yah m) m.length (z:Int):=(hzf.1 _).2 ⟨1,rfl⟩
  exact hx.2.2.2.1 _ h _ (hzf.2.2.1 _ h1)
end
end Go.Proofs.YtcnilhcplgiidaaDoor
