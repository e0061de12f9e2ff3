/- The author's own program logic: statements that draw their order; results told less exactly. -/
import Derived.Test.YtjpbeacamoijhaaGreatDoorGb
set_option linter.unusedSimpArgs false
set_option linter.unusedVariables false
namespace Go.Proofs.YtjpbeacamoijhaaGreatDoor
open Go Go.RowKit
section
variable {P:Program} {B:Nat} {w0:mR} {Mx:Nat->Prop} {N:Nat} {w:World} {ρ:Nat->Addr} {fr:Fr} {H:Hp} {a:Act}
theorem aC.FL (h:aC B w0 Mx N w ρ fr H a) {aI:Nat} (hn:hget H aI=none) {w1:mR} {w':World} {ρ':Nat->Addr} {N0:Nat} {a0:Act} {M0:Nat->Prop} {t:Nat} {l:List Int} (DC:w1.w=w) (k:aC w.heap.size w1 M0 N0 w' ρ' [] [(0, .cells t (.ints l))] a0):
  aC B w0 Mx N w' (aM ρ aI (ρ' 0)) fr ((aI, .cells t (.ints l))::H) a/\ ∀v es n,VR w' (MM M0 [(0, .cells t (.ints l))] ρ') ρ' (DD [(0, .cells t (.ints l))]) v (.sl es 0 0 n)->VR w' (MM Mx ((aI, .cells t (.ints l))::H) (aM ρ aI (ρ' 0))) (aM ρ aI (ρ' 0)) (DD ((aI, .cells t (.ints l))::H)) v (.sl es aI 0 n):=by
 have dW:=k.below;rw [DC] at dW;have hblk:w.heap.size<=(ρ' 0).block:=(k.own 0 _ rfl rfl).1;have e0:aM ρ aI (ρ' 0) aI=ρ' 0:=by simp [aM]
 have e1: ∀i,i≠aI->aM ρ aI (ρ' 0) i=ρ i:=fun i hi=>by simp [aM,hi]
 have cs: ∀i o,hget ((aI, .cells t (.ints l))::H) i=some o->(i=aI/\o= .cells t (.ints l))\/(i≠aI/\hget H i=some o):=fun i o ho=>by
  simp only [hget] at ho;by_cases e:aI=i
  ·rw [if_pos e] at ho;exact .inl ⟨e.symm,(Option.some.inj ho).symm⟩
  ·rw [if_neg e] at ho;exact .inr ⟨fun e'=>e e'.symm,ho⟩
 have ay: ∀i o,hget H i=some o->i≠aI:=fun i o ho e=>by rw [e,hn] at ho;cases ho
 have lL: ∀i o,hget H i=some o->hget ((aI, .cells t (.ints l))::H) i=some o:=fun i o ho=>by
  simp only [hget];rw [if_neg (fun e=>ay i o ho e.symm)];exact ho
 have J9: ∀x,x<w.heap.size->MM Mx ((aI, .cells t (.ints l))::H) (aM ρ aI (ρ' 0)) x->MM Mx H ρ x:=fun x hx hm=>by
  rcases hm with g|⟨i,o,g1,g2,g3⟩
  ·exact .inl g
  ·rcases cs i o g1 with ⟨rfl,rfl⟩|⟨q1,q2⟩
   ·rw [e0] at g3;omega
   ·rw [e1 i q1] at g3;exact .inr ⟨i,o,q2,g2,g3⟩
 have hold: ∀{v:Value} {x:AV},VR w (MM Mx H ρ) ρ (DD H) v x->VR w' (MM Mx ((aI, .cells t (.ints l))::H) (aM ρ aI (ρ' 0))) (aM ρ aI (ρ' 0)) (DD ((aI, .cells t (.ints l))::H)) v x:=fun hv=>by
  refine hv.carry dW.size (fun x hx hm=>⟨dW.block x hx,fun g=>hm (J9 x hx g)⟩) (fun i hd=>?_);obtain ⟨o,ho⟩:=hd;exact ⟨⟨o,lL i o ho⟩,e1 i (ay i o ho),fun arr t ha=>⟨arr,(dW.block _ (iD ha)).trans ha,rfl⟩⟩
 have rA:=k.objs 0 _ rfl;obtain ⟨f1,arr,f2,f3,f4⟩:=rA;refine ⟨⟨h.below.trans (dW.mono h.hB),Nat.le_trans h.hB dW.size,fun x hx=>Nat.lt_of_lt_of_le (h.mx x hx) dW.size,fun i o g1 g2=>?_,fun i o g1=>?_,fun i o i' o' g1 g2 g3 g4 g5=>?_,fun t=>hold (h.frv t),h.defers,h.size⟩,fun v es n hv=>?_⟩
 ·rcases cs i o g1 with ⟨rfl,rfl⟩|⟨q1,q2⟩
  ·rw [e0];exact ⟨Nat.le_trans h.hB hblk,fun hx=>by have:=h.mx _ hx;omega⟩
  ·rw [e1 i q1];exact h.own i o q2 g2
 ·rcases cs i o g1 with ⟨rfl,rfl⟩|⟨q1,q2⟩
  ·exact ⟨by rw [e0];exact f1,arr,by rw [e0];exact f2,by rw [e0];exact f3,fun j hj=>let ⟨u,hu,hx⟩:=f4 j hj;⟨u,by rw [e0];exact hu,by obtain rfl:=VR.av (show VR _ _ _ _ u (I (l.getD j 0)) from hx);exact .int _ _⟩⟩
  ·have hr:=h.objs i o q2;cases o with
   |gone=>trivial
   |cells t c=>
    obtain ⟨f1,arr,f2,f3,f4⟩:=hr;exact ⟨by rw [e1 i q1];exact f1,arr,by rw [e1 i q1];exact (dW.block _ (iD f2)).trans f2,by rw [e1 i q1];exact f3,fun j hj=>let ⟨u,hu,hx⟩:=f4 j hj;⟨u,by rw [e1 i q1];exact hu,hold hx⟩⟩
   |gmap t ck l=>
    obtain ⟨es,k1,k2,k3⟩:=hr;exact ⟨es,by rw [e1 i q1];exact (dW.block _ (iD k1)).trans k1,k2,fun j e q he hl=>let ⟨g1,g2,g3⟩:=k3 j e q he hl;⟨g1,g2,hold g3⟩⟩
   |iter mid s sn la=>
    obtain ⟨k1,k2,k3⟩:=hr;obtain ⟨om,zi⟩:=k1;exact ⟨⟨om,lL mid om zi⟩,by rw [e1 i q1];exact k2,by rw [e1 i q1,e1 mid (ay mid om zi)];exact (dW.block _ (iD k3)).trans k3⟩
   |imap t l=>
    obtain ⟨k0,es,ck,k1,k2,k3⟩:=hr;exact ⟨k0,es,ck,by rw [e1 i q1];exact (dW.block _ (iD k1)).trans k1,k2,fun j e k x he hl=>let ⟨g1,g2,g3⟩:=k3 j e k x he hl;⟨g1,hold g2,g3⟩⟩
   |fmap t c=>
    obtain ⟨k0,es,ck,k1,k2⟩:=hr;exact ⟨k0,es,ck,by rw [e1 i q1];exact (dW.block _ (iD k1)).trans k1,k2⟩
 ·have fresh: ∀i o,hget H i=some o->o.live=true->(ρ i).block<w.heap.size:=fun i o g1 g2=>by
   exact h.oc _ (.inr ⟨i,o,g1,g2,rfl⟩)
  rcases cs i o g1 with ⟨rfl,rfl⟩|⟨q1,q2⟩
  ·rcases cs i' o' g3 with ⟨rfl,rfl⟩|⟨r1,r2⟩
   ·rfl
   ·rw [e0,e1 i' r1] at g5;have:=fresh i' o' r2 g4;omega
  ·rcases cs i' o' g3 with ⟨rfl,rfl⟩|⟨r1,r2⟩
   ·rw [e0,e1 i q1] at g5;have:=fresh i o q2 g2;omega
   ·rw [e1 i q1,e1 i' r1] at g5;exact h.inj i o i' o' q2 g2 r2 g4 g5
 ·cases hv with
  |sl _ _ _ _ cap hd hc arr t2 ad ha hb hr=>
   refine .sl es aI 0 n cap ⟨.cells t (.ints l),by simp [hget]⟩ hc arr t2 ad ?_ ?_ ?_
   ·rw [e0];exact ha
   ·rw [e0];exact hb
   ·rw [e0];exact hr
theorem Yt (h:aC B w0 Mx N w ρ fr H a) {f:Nat} {xs:List AV} {aI:Nat} {K:AV->AObj->Prop} (hc:KA P f xs H aI K) {vs:List Value} (hl:vs.length=xs.length)
  (hv: ∀(i:Nat) (v:Value) (x:AV),vs[i]?=some v->xs[i]?=some x->VR w (MM Mx H ρ) ρ (DD H) v x):
  oW P f/\Calls P f vs.toArray w fun e w'=> ∃v es n t l ρ' M0,e= .returned v/\K (.sl es aI 0 n) (.cells t (.ints l))/\aC w.heap.size ⟨w,fun _=>undef⟩ M0 0 w' ρ' [] [(0, .cells t (.ints l))] {tmps:= #[],defers:=[]}/\VR w' (MM M0 [(0, .cells t (.ints l))] ρ') ρ' (DD [(0, .cells t (.ints l))]) v (.sl es 0 0 n):=by
 obtain ⟨es,n,t,l,sy,hk⟩:=hc;rcases sy with ⟨hp,iw,hfn⟩|⟨hs,iw,hfn⟩
 ·refine ⟨iw,(hfn w (MM Mx H ρ) vs ⟨h.tc,h.oc⟩ hl fun i v x h1 h2=>(hv i v x h1 h2).pT (List.all_eq_true.1 hp _ (List.mem_of_getElem? h2))).mono ?_⟩;rintro e w' ⟨v,ρ',rfl,aX,hr⟩;exact ⟨v,es,n,t,l,ρ',_,rfl,hk,aX,hr⟩
 ·have ze: ∀(i:Nat) (v:Value) (x:AV),vs[i]?=some v->(xs.map (snap H 6))[i]?=some x->VR w (fun _=>False) ρ0 (fun _=>False) v x:=fun i v x h1 h2=>by
   simp only [List.getElem?_map] at h2;obtain ⟨x',g1,rfl⟩:=Option.map_eq_some_iff.1 h2;exact Iw h (fun _ h=>h.elim) 6 v x' (hv i v x' h1 g1) (hs _ (List.mem_of_getElem? g1))
  refine ⟨iw,(hfn w (fun _=>False) vs ⟨h.tc,fun _ h=>h.elim⟩ (by simpa using hl) ze).mono ?_⟩;rintro e w' ⟨v,ρ',rfl,aX,hr⟩;exact ⟨v,es,n,t,l,ρ',_,rfl,hk,aX,hr⟩
end
theorem Sw {ops:Array Oper} {es:Nat->Ent}: ∀(d j:Nat) (fr:Fr),qS ops es j fr (d+1)=fput (qS ops es j fr d) (jk ops (j+d)) (es (j+d)).val
 |0,j,fr=>rfl
 |d+1,j,fr=>by
  have:=Sw (ops:=ops) (es:=es) d (j+1) (fput fr (jk ops j) (es j).val)
  simp only [qS] at this⊢;rw [this,show j+1+d=j+(d+1) by omega]
theorem Rb {base:Nat} {es:Nat->Ent}: ∀(d j:Nat) (H:Hp),hI base es j H (d+1)=(es (j+d)).eff (base+(j+d)) (hI base es j H d)
 |0,j,H=>rfl
 |d+1,j,H=>by
  have:=Rb (base:=base) (es:=es) d (j+1) ((es j).eff (base+j) H)
  simp only [hI] at this⊢;rw [this,show j+1+d=j+(d+1) by omega]
theorem EB {ops:Array Oper} {es:Nat->Ent} (fr:Fr): ∀k,qS ops es 0 fr k=frS ops es fr (fun _=>true) k
 |0=>rfl
 |k+1=>by rw [Sw,EB fr k];simp [frS]
theorem D5 {base:Nat} {es:Nat->Ent} (H:Hp): ∀k,hI base es 0 H k=hS base es H (fun _=>true) k
 |0=>rfl
 |k+1=>by rw [Rb,D5 H k];simp [hS]
def Db (ops:Array Oper) (E:Nat->Bool):Prop:= ∀j,E j=true-> ∀i∈qX (ops.getD j default),E i=true
theorem Ra {ops:Array Oper}: ∀(l:List Oper) (cj:List (List Nat)),l=ops.toList.drop cj.length->(∀k i,i∈cj.getD k []-> ∀E,Db ops E->(∀e∈qX (ops.getD k default),E e=true)->E i=true)->
  ∀k i,i∈(ancs l cj).getD k []-> ∀E,Db ops E->(∀e∈qX (ops.getD k default),E e=true)->E i=true
 |[],cj,_,h=>h
 |o::l,cj,hl,h=>by
  simp only [ancs];have ay:cj.length<ops.size:=by
   have:=congrArg List.length hl;simp at this;omega
  have ho:o=ops.getD cj.length default:=by
   have:=congrArg (fun x=>x[0]?) hl
   simp [ay] at this;simpa [ay] using this
  refine Ra l _ ?_ ?_
  ·have:=congrArg List.tail hl
   simp only [List.tail_cons,List.tail_drop] at this;rw [this];simp
  ·intro k i hi E hE hk;by_cases dD:k<cj.length
   ·have e:(cj++[((qX o).flatMap fun i=>i::cj.getD i []).eraseDups]).getD k []=cj.getD k []:=by
     simp [List.getElem?_append_left dD]
    rw [e] at hi;exact h k i hi E hE hk
   ·by_cases Og:k=cj.length
    ·subst Og;have e:(cj++[((qX o).flatMap fun i=>i::cj.getD i []).eraseDups]).getD cj.length []=((qX o).flatMap fun i=>i::cj.getD i []).eraseDups:=by simp
     rw [e,List.mem_eraseDups,List.mem_flatMap] at hi;obtain ⟨x,hx,Nw⟩:=hi;rw [ho] at hx;have WO:=hk x hx;rcases List.mem_cons.1 Nw with rfl|Nw
     ·exact WO
     ·exact h x i Nw E hE (hE x WO)
    ·have e:(cj++[((qX o).flatMap fun i=>i::cj.getD i []).eraseDups]).getD k []=[]:=by
      rw [List.getD_eq_getElem?_getD,List.getElem?_eq_none (by simp;omega)];rfl
     rw [e] at hi;cases hi
theorem K5 {ops:Array Oper} {E:Nat->Bool} (hE:Db ops E) {k i:Nat} (hi:((mA ops).getD k []).contains i=true) (hk: ∀e∈qX (ops.getD k default),E e=true):E i=true:=
 Ra ops.toList [] (by simp) (fun k i h=>by simp at h) k i (List.contains_iff_mem.1 hi) E hE hk
structure PD (ops:Array Oper) (ex dl:List (List Nat)):Prop where
 slot: ∀i j,i<ops.size->j<ops.size->i≠j->((mA ops).getD j []).contains i=true\/((mA ops).getD i []).contains j=true\/ ∀d,jk ops i=some d->(ex.getD j []).contains d=true
 new: ∀i j,i<ops.size->j<ops.size->i<j->((mA ops).getD j []).contains i=true\/(dl.getD j []).contains i=true
 lo: ∀i j,i<ops.size->j<ops.size->i≠j->ycx (ops.getD i default).op=false->loud (ops.getD i default).op=false->loud (ops.getD j default).op=true->((mA ops).getD j []).contains i=true
 lolo: ∀i j,i<ops.size->j<ops.size->i≠j->loud (ops.getD i default).op=true->loud (ops.getD j default).op=true->((mA ops).getD j []).contains i=true\/((mA ops).getD i []).contains j=true\/(yev (ops.getD i default).op=true/\yev (ops.getD j default).op=true)\/xW ops (ops.getD i default).op (ops.getD j default).op=true
 ins: ∀i j,i<ops.size->j<ops.size->i≠j->yev (ops.getD i default).op=true->loud (ops.getD j default).op=true->yev (ops.getD j default).op=true
 same: ∀i j,i<ops.size->j<ops.size->i≠j-> ∀d,jk ops i=some d->jk ops j=some d->((mA ops).getD j []).contains i=true\/((mA ops).getD i []).contains j=true
 lt: ∀i j,i<ops.size->j<ops.size->((mA ops).getD j []).contains i=true->i<j
 elt: ∀j,j<ops.size-> ∀e∈qX (ops.getD j default),e<j
theorem P5 {ops:Array Oper} {ex dl:List (List Nat)} (h:G8 ops ex dl=true):PD ops ex dl:=by
 have h0: ∀i j,i<ops.size->j<ops.size->_:=fun i j hi hj=>List.all_eq_true.1 (List.all_eq_true.1 h j (by simpa using hj)) i (by simpa using hi);simp only [Bool.and_eq_true,Bool.or_eq_true,beq_iff_eq,Bool.not_eq_true',decide_eq_true_eq,decide_eq_false_iff_not,bne_iff_ne,G8.before0,List.all_eq_true] at h0
 refine ⟨fun i j hi hj ax=>?_,fun i j hi hj ay=>?_,fun i j hi hj ax h1 h2 h3=>?_,fun i j hi hj ax h1 h2=>?_,fun i j hi hj ax h1 h2=>?_,fun i j hi hj ax d h1 h2=>?_,fun i j hi hj h1=>?_,fun j hj e he=>?_⟩
 ·have:=h0 i j hi hj
  rcases this.1.1 with g|g
  ·exact absurd g ax
  ·rcases g.1.1.1.1.1 with (g1|g1)|g1
   ·exact .inl g1
   ·exact .inr (.inl g1)
   ·refine .inr (.inr fun d hd=>?_);unfold jk at hd;rw [hd] at g1;exact g1
 ·have:=h0 i j hi hj
  rcases this.1.1 with g|g
  ·omega
  ·rcases g.1.1.1.1.2 with (g1|g1)|g1
   ·exact .inl g1
   ·omega
   ·exact .inr g1
 ·have:=h0 i j hi hj
  rcases this.1.1 with g|g
  ·exact absurd g ax
  ·rcases g.1.1.1.2 with ((g1|g1)|g1)|g1
   ·rw [h1] at g1;cases g1
   ·rw [h3] at g1;cases g1
   ·exact g1
   ·rw [h2] at g1;cases g1
 ·have:=h0 i j hi hj
  rcases this.1.1 with g|g
  ·exact absurd g ax
  ·rcases g.1.1.2 with ((((g1|g1)|g1)|g1)|g1)|g1
   ·rw [h1] at g1;cases g1
   ·rw [h2] at g1;cases g1
   ·exact .inl g1
   ·exact .inr (.inl g1)
   ·exact .inr (.inr (.inl g1))
   ·exact .inr (.inr (.inr g1))
 ·have:=h0 i j hi hj
  rcases this.1.1 with g|g
  ·exact absurd g ax
  ·rcases g.1.2 with (g1|g1)|g1
   ·rw [h1] at g1;cases g1
   ·rw [h2] at g1;cases g1
   ·exact g1
 ·have:=h0 i j hi hj
  unfold jk at h1 h2;rcases this.1.1 with g|g
  ·exact absurd g ax
  ·rcases g.2 with ((g1|g1)|g1)|g1
   ·exact .inl g1
   ·exact .inr g1
   ·rw [h1,h2] at g1;exact absurd rfl g1
   ·rw [h1] at g1;cases g1
 ·have:=h0 i j hi hj
  rcases this.1.2 with g|g
  ·rw [h1] at g;cases g
  ·exact g
 ·exact (h0 j j hj hj).2 e he
def cntE (E:Nat->Bool):Nat->Nat
 |0=>0
 |k+1=>cntE E k+if E k then 1 else 0
theorem Q9 (E:Nat->Bool): ∀k,cntE E k<=k
 |0=>Nat.le_refl _
 |k+1=>by have:=Q9 E k;simp only [cntE];split<;>omega
theorem Sv {E:Nat->Bool}: ∀k,cntE E k=k-> ∀i,i<k->E i=true
 |0,_,i,hi=>by omega
 |k+1,h,i,hi=>by
  have hk:=Q9 E k;simp only [cntE] at h;by_cases hE:E k=true
  ·rw [if_pos hE] at h;by_cases e:i=k
   ·rw [e];exact hE
   ·exact Sv k (by omega) i (by omega)
  ·rw [if_neg hE] at h;omega
theorem Su {E E':Nat->Bool} {j:Nat} (h0:E j=false) (h1:E' j=true) (h: ∀i,i≠j->E' i=E i): ∀k,cntE E' k=cntE E k+if j<k then 1 else 0
 |0=>by simp [cntE]
 |k+1=>by
  have ih:=Su h0 h1 h k;simp only [cntE,ih];by_cases e:k=j
  ·subst e;simp [h0,h1]
  ·rw [h k e];generalize (if E k=true then 1 else 0)=z;by_cases wU:j<k
   ·rw [if_pos wU,if_pos (show j<k+1 by omega)];omega
   ·rw [if_neg wU,if_neg (show¬j<k+1 by omega)];omega
theorem Ae (n k:Nat):(Array.replicate n false).getD k false=false:=by by_cases hk:k<n<;>simp [hk]
section
variable {P:Program} {B:Nat} {w0:mR} {Mx:Nat->Prop} {N:Nat} {ops:Array Oper} {base:Nat} {ex dl:List (List Nat)} {es:Nat->Ent} {fr0:Fr} {H0:Hp}
theorem y63 {E E':Nat->Bool} {j n:Nat} (hj:j<n) (h1:E' j=true) (h: ∀i,i≠j->E' i=E i) (rC: ∀i,j<i->i<n->E i=true-> ∀d,jk ops i=some d->jk ops j≠some d) (t:Nat):
  fget (frS ops es fr0 E' n) t=fget (fput (frS ops es fr0 E n) (jk ops j) (es j).val) t:=by
 by_cases hd:jk ops j=some t
 ·have e2:fget (fput (frS ops es fr0 E n) (jk ops j) (es j).val) t=(es j).val:=by rw [hd];simp [fput,fget]
  rw [e2]
  have: ∀k,j<k->k<=n->fget (frS ops es fr0 E' k) t=(es j).val:=by
   intro k
   induction k with
   |zero=>intro h;omega
   |succ k ih=>
    intro hk B7;simp only [frS];by_cases e:k=j
    ·subst e;rw [if_pos h1,hd];simp [fput,fget]
    ·have FM:=ih (by omega) (by omega)
     split
     ·rename_i hE
      rw [h k e] at hE;have ax:=rC k (by omega) (by omega) hE;cases vM:jk ops k with
      |none=>exact FM
      |some d=>
       have:d≠t:=fun e'=>ax d vM (by rw [hd,e'])
       simp only [fput,fget,this,if_false];exact FM
     ·exact FM
  exact this n hj (Nat.le_refl _)
 ·have e2:fget (fput (frS ops es fr0 E n) (jk ops j) (es j).val) t=fget (frS ops es fr0 E n) t:=by
   cases hk:jk ops j with
   |none=>rfl
   |some d=>simp only [fput,fget];rw [if_neg (fun e=>hd (by rw [hk,e]))]
  rw [e2];exact Jb n fun i _ hi=>h i (fun e=>hd (by rw [←e];exact hi))
theorem Q8 {H:Hp} {t:Nat} {m k v:AV} {p:Prop} {id:Nat} {n x:Int} (h:inF P H t m k v=some (p,id,n,x)) (hp:p):
  ∃kt et,tk P t= .map kt et/\tk P kt= .int .i64/\m= .mp id/\k= .int .i64 n/\v= .int .i64 x/\ ∃t' g,hget H id=some (.fmap t' (.ints g))/\g n=none:=by
 unfold inF at h
 split at h
 ·rename_i kt et eG
  unfold inK at h
  split at h
  ·rename_i dD
   unfold inO at h
   split at h
   ·rename_i t' g hg
    cases h;exact ⟨kt,et,eG,dD,rfl,rfl,rfl,t',g,hg,hp⟩
   ·cases h
  ·cases h
 ·cases h
def kdO:Option AObj->Option Nat
 |some (.fmap t (.ints _))=>some t
 |_=>none
def yl (H:Hp) (id:Nat):Option Nat:=kdO (hget H id)
def Kn (n:Int):Option AObj->Option Int
 |some (.fmap _ (.ints g))=>g n
 |_=>none
def Cv (H:Hp) (id:Nat) (n:Int):Option Int:=Kn n (hget H id)
theorem y3x {H:Hp} {id t:Nat} (h:yl H id=some t): ∃g,hget H id=some (.fmap t (.ints g)):=by
 unfold yl kdO at h
 split at h
 ·rename_i t' g hg;cases h;exact ⟨g,hg⟩
 ·cases h
theorem yR (H:Hp) (bO:Nat) (n' x':Int) (i:Nat):hget (insE H bO n' x') i=if i=bO then (match hget H i with|some (.fmap t (.ints g))=>some (.fmap t (.ints (updI g n' x')))|q=>q) else hget H i:=by
 unfold insE insO;by_cases e:i=bO
 ·subst e;rw [if_pos rfl]
  split
  ·rename_i t g hg;rw [sN hg,hg]
  ·rename_i iy
   split
   ·rename_i t g hg;exact absurd hg (iy t g)
   ·rfl
 ·rw [if_neg e]
  split
  ·rw [jW (Ne.symm e)]
  ·rfl
theorem Ls (H:Hp) (bO:Nat) (n' x':Int) (id:Nat):yl (insE H bO n' x') id=yl H id:=by
 unfold yl;rw [yR]
 split
 ·split
  ·rename_i t g hg;rw [hg];rfl
  ·rfl
 ·rfl
theorem y3y {H:Hp} {id t:Nat} {g:Int->Option Int} {n x:Int} (h:hget H id=some (.fmap t (.ints g))):Cv (insE H id n x) id n=some x:=by
 unfold Cv;rw [yR,if_pos rfl,h];simp [Kn,updI]
theorem y64 {H:Hp} {id bO:Nat} {n n' x':Int} (h:(Cv H id n).isSome=true):(Cv (insE H bO n' x') id n).isSome=true:=by
 unfold Cv at h⊢;rw [yR]
 split
 ·split
  ·rename_i t g hg
   rw [hg] at h;simp only [Kn,updI] at h⊢
   split
   ·rfl
   ·exact h
  ·exact h
 ·exact h
theorem Xy {H1 H2:Hp} {id bO:Nat} {n n' x x':Int} (h: ∀i,hget H1 i=hget (insE H2 id n x) i) (hd:bO≠id\/n'≠n) (i:Nat):hget (insE H1 bO n' x') i=hget (insE (insE H2 bO n' x') id n x) i:=by
 rw [yR H1,yR (insE H2 bO n' x'),yR H2 bO n' x',h i,yR H2];by_cases e1:i=id
 ·by_cases e2:i=bO
  ·have hn:n'≠n:=by rcases hd with g|g<;>first|exact g|(exfalso;exact g (by omega))
   simp only [if_pos e1,if_pos e2];cases hq:hget H2 i with
   |none=>rfl
   |some ob=>
    cases ob with
    |fmap t c=>
     cases c with
     |ints g=>
      have:updI (updI g n x) n' x'=updI (updI g n' x') n x:=by
       funext q;simp only [updI];by_cases q1:q=n'
       ·have q2:q≠n:=fun e=>hn (q1.symm.trans e);rw [if_pos q1,if_neg q2,if_pos q1]
       ·rw [if_neg q1];by_cases q2:q=n
        ·rw [if_pos q2,if_pos q2]
        ·rw [if_neg q2,if_neg q2,if_neg q1]
      simp only [this]
     |bools g=>rfl
     |pairs g=>rfl
    |_=>rfl
  ·simp only [if_pos e1,if_neg e2]
 ·by_cases e2:i=bO
  ·simp only [if_neg e1,if_pos e2]
  ·simp only [if_neg e1,if_neg e2]
theorem Ad (H:Hp) (id:Nat) (ob:AObj) (i:Nat):hget (hset H id ob) i=if id=i then (hget H i).map (fun _=>ob) else hget H i:=by
 by_cases e:id=i
 ·subst e;rw [if_pos rfl]
  induction H with
  |nil=>rfl
  |cons q r ih=>
   obtain ⟨k,o⟩:=q;simp only [hset,hget];by_cases e:k=id
   ·simp [e,hget]
   ·simp only [e,if_false,hget];exact ih
 ·rw [if_neg e,jW e]
theorem Xx (e:Ent) (aI:Nat) {H1 H2:Hp} {id:Nat} (h:hget H1 id=hget H2 id):hget (e.eff aI H1) id=hget (e.eff aI H2) id:=by
 cases e with
 |skip=>exact h
 |quiet r=>exact h
 |alloc r ob=>simp only [Ent.eff,hget];rw [h]
 |store i ob=>simp only [Ent.eff];rw [Ad,Ad,h]
 |app r g ob=>
  simp only [Ent.eff,hget]
  split
  ·rfl
  ·cases g with
   |none=>exact h
   |some i=>simp only [hgo];rw [Ad,Ad,h]
 |ins i n x=>simp only [Ent.eff];rw [yR,yR,h]
theorem y65 {ops:Array Oper} {es:Nat->Ent} {fr0:Fr} {d:Nat} (h:vZ ops d=true) {E:Nat->Bool}: ∀k,k<=ops.size->fget (frS ops es fr0 E k) d=fget fr0 d:=by
 intro k
 induction k with
 |zero=>intro _;rfl
 |succ k ih=>
  intro hk;have dp:=ih (by omega);simp only [frS]
  split
  ·have ax:jk ops k≠some d:=by
    unfold vZ at h
    have:=List.all_eq_true.1 h (ops.getD k default) (by
     have:ops.getD k default=ops[k]'(by omega):=by simp [show k<ops.size by omega]
     rw [this];simp)
    simpa [jk] using this
   cases hd:jk ops k with
   |none=>simp only [fput];exact dp
   |some q=>
    simp only [fput,fget];rw [if_neg (fun e=>ax (by rw [hd,e]))];exact dp
  ·exact dp
theorem Q7 {ops:Array Oper} {es:Nat->Ent} {fr0:Fr} {i t a id:Nat} {x y:Operand} {z:AV} {p:Prop} {ob:AObj} {H:Hp} {l:List Nat} {op:Op} (ho:op= .store t x y) (ha:stP op=some a) (hu:vZ ops a=true) (aR:stF P H t (evA (bW l (frS ops es fr0 (fun _=>true) i)) x) z=some (p,id,ob)) (hi:i<=ops.size:=by omega): ∃off,fget fr0 a= .ptr id off:=by
 subst ho;cases x with
 |tmp d=>
  simp only [stP,Option.some.injEq] at ha;subst ha;simp only [evA] at aR
  split at aR
  ·rw [LW] at aR
   split at aR
   ·simp [stF] at aR
   ·rw [y65 hu i hi] at aR;unfold stF at aR
    split at aR
    ·rename_i bO off hq
     split at aR
     ·split at aR
      ·split at aR
       ·cases aR;exact ⟨off,hq⟩
       ·cases aR
      ·cases aR
     ·cases aR
    ·cases aR
  ·simp [stF] at aR
 |_=>simp [stP] at ha
theorem Xw {H1 H2:Hp} {t:Nat} {x y:AV} {p:Prop} {id:Nat} {ob:AObj} (h:stF P H2 t x y=some (p,id,ob)) (e:hget H1 id=hget H2 id):stF P H1 t x y=stF P H2 t x y:=by
 unfold stF at h⊢;cases x with
 |ptr i off=>
  simp only at h⊢
  have:i=id:=by
   split at h
   ·split at h
    ·split at h
     ·cases h;rfl
     ·cases h
    ·cases h
   ·cases h
  subst this;rw [e]
 |_=>rfl
theorem Xv (hc:PD ops ex dl) (wI: ∀i j a b,i<ops.size->j<ops.size->i≠j->((mA ops).getD j []).contains i=false->((mA ops).getD i []).contains j=false->stP (ops.getD i default).op=some a->stP (ops.getD j default).op=some b->vZ ops a=true->vZ ops b=true->a≠b->sep2 fr0 a b=true) (hb: ∀i,base<=i->hget H0 i=none) (km: ∀j,j<ops.size->es j= .skip\/xV P ops base ex dl j (ops.getD j default) (frS ops es fr0 (fun _=>true) j) (hS base es H0 (fun _=>true) j) (es j))
  {E:Nat->Bool} (hE:Db ops E) (hEn: ∀i,E i=true->i<ops.size) {j:Nat} (hj:j<ops.size) (qz:dok (jk ops j) N=true) (kp:xV P ops base ex dl j (ops.getD j default) (frS ops es fr0 (fun _=>true) j) (hS base es H0 (fun _=>true) j) (es j)) (uj:E j=false) (hr: ∀e∈qX (ops.getD j default),E e=true) {w:World} {ρ:Nat->Addr} {a:Act}
  (hs:aC B w0 Mx N w ρ (frS ops es fr0 E ops.size) (hS base es H0 E ops.size) a) {E':Nat->Bool} (h1:E' j=true) (h2: ∀i,i≠j->E' i=E i) (Q:Exit->Act->World->Prop) (K:Act->World->Prop)
  (hK: ∀a' w' ρ',aC B w0 Mx N w' ρ' (frS ops es fr0 E' ops.size) (hS base es H0 E' ops.size) a'->K a' w'):wpOp P ops Q j K a w:=by
 have hoj:ops[j]?=some (ops.getD j default):=by simp [hj]
 have jZ:(ops.getD j default).dst=jk ops j:=rfl;generalize nF:ops.getD j default=o at*;have nI: ∀i,((mA ops).getD j []).contains i=true->E i=true:=fun i hi=>K5 hE hi (by rw [nF];exact hr);have oC: ∀i,((mA ops).getD i []).contains j=true->E i=false:=fun i hi=>by
  cases qR:E i with
  |false=>rfl
  |true=>have:=K5 hE hi (hE i qR);rw [uj] at this;cases this
 have rC: ∀i,j<i->i<ops.size->E i=true-> ∀d,jk ops i=some d->jk ops j≠some d:=fun i hji df qR d DP Cf=>by
  rcases hc.same i j df hj (by omega) d DP Cf with g|g
  ·have:=hc.lt i j df hj g;omega
  ·rw [oC i g] at qR;cases qR
 have pd:=y63 (es:=es) (fr0:=fr0) hj h1 h2 rC;have Ov: ∀t,fget (bW (cu ex j) (frS ops es fr0 (fun _=>true) j)) t= .any\/fget (bW (cu ex j) (frS ops es fr0 (fun _=>true) j)) t=fget (frS ops es fr0 E ops.size) t:=fun t=>by
  rw [LW];by_cases hx:(cu ex j).contains t=true
  ·rw [if_pos hx];exact .inl rfl
  ·rw [if_neg hx];right;rw [←P6 (ops:=ops) (es:=es) (fr0:=fr0) (j:=j) (E:=fun i=>decide (i<j)) (fun _=>rfl) ops.size (by omega)];refine Jb ops.size fun i hi hd=>?_;by_cases e:i=j
   ·subst e;simp [uj]
   ·rcases hc.slot i j hi hj e with g|g|g
    ·have:=hc.lt i j hi hj g;simp [this,nI i g]
    ·have:=hc.lt j i hj hi g;simp [show¬i<j by omega,oC i g]
    ·exact absurd (g t hd) hx
 have o8:=hs.Fi Ov;have rj:A6 ops o (bW (cu ex j) (frS ops es fr0 (fun _=>true) j))->Region.wanted o (yielded ops a.tmps)=true:=fun hw=>by
  rcases hw with hg|⟨g,b,hg,hv⟩
  ·simp [Region.wanted,hg]
  ·simp [Region.wanted,hg,Jm o8 hv]
 unfold wpOp;rw [hoj];simp only;have AE:ycx o.op=false->loud o.op=false->(∀i,E i=true->(es i).uK=false)/\ ∀i,i<j->(es i).uK=false:=fun lM hl=>by
  have key: ∀i,i<ops.size->(es i).uK=true->((mA ops).getD i []).contains j=true/\i≠j:=fun i hi he=>by
   have cV:=km i hi;have sz:loud (ops.getD i default).op=true:=by
    cases hk:es i with
    |store id ob=>replace cV:=cV.resolve_left (by rw [hk];intro h;cases h);rw [hk] at cV;exact cV.2.2.1
    |app r g ob=>replace cV:=cV.resolve_left (by rw [hk];intro h;cases h);rw [hk] at cV;exact cV.2.2.1
    |ins id n x=>replace cV:=cV.resolve_left (by rw [hk];intro h;cases h);rw [hk] at cV;exact cV.2.2.1
    |_=>rw [hk] at he;cases he
   have ax:i≠j:=fun e=>by subst e;rw [nF,hl] at sz;cases sz
   exact ⟨hc.lo j i hj hi (Ne.symm ax) (by rw [nF];exact lM) (by rw [nF];exact hl) sz,ax⟩
  refine ⟨fun i qR=>?_,fun i ke=>?_⟩
  ·cases he:(es i).uK with
   |false=>rfl
   |true=>have:=oC i (key i (hEn i qR) he).1;rw [qR] at this;cases this
  ·cases he:(es i).uK with
   |false=>rfl
   |true=>have:=hc.lt j i hj (by omega) (key i (by omega) he).1;omega
 have Gj:loud o.op=true->yev o.op=false->stP o.op=none->hS base es H0 E ops.size=hS base es H0 (fun _=>true) j/\hS base es H0 E' ops.size=(es j).eff (base+j) (hS base es H0 (fun _=>true) j):=fun hl DJ DH=>by
  have key: ∀i,i<ops.size->i≠j->(∀H,(es i).eff (base+i) H=H)\/(E i=true/\i<j)\/(E i=false/\j<i):=fun i hi e=>by
   have cV:=km i hi;cases hk:es i with
   |skip=>left;intro H;rfl
   |quiet r=>left;intro H;rfl
   |alloc r rh=>
    replace cV:=cV.resolve_left (by rw [hk];intro h;cases h);rw [hk] at cV
    have:=hc.lo i j hi hj e cV.2.1 cV.2.2.1 (by rw [nF];exact hl)
    exact .inr (.inl ⟨nI i this,hc.lt i j hi hj this⟩)
   |store bO rh=>
    replace cV:=cV.resolve_left (by rw [hk];intro h;cases h);rw [hk] at cV;rcases hc.lolo i j hi hj e cV.2.2.1 (by rw [nF];exact hl) with g|g|g|g
    ·exact .inr (.inl ⟨nI i g,hc.lt i j hi hj g⟩)
    ·exact .inr (.inr ⟨oC i g,hc.lt j i hj hi g⟩)
    ·rw [nF,DJ] at g;cases g.2
    ·unfold xW at g;rw [nF,DH] at g;unfold zW at g
     split at g
     ·rename_i h';cases h'
     ·cases g
   |app r g' rh=>
    replace cV:=cV.resolve_left (by rw [hk];intro h;cases h);rw [hk] at cV;rcases hc.lolo i j hi hj e cV.2.2.1 (by rw [nF];exact hl) with g|g|g|g
    ·exact .inr (.inl ⟨nI i g,hc.lt i j hi hj g⟩)
    ·exact .inr (.inr ⟨oC i g,hc.lt j i hj hi g⟩)
    ·rw [nF,DJ] at g;cases g.2
    ·unfold xW at g;rw [nF,DH] at g;unfold zW at g
     split at g
     ·rename_i h';cases h'
     ·cases g
   |ins bO n' x'=>
    replace cV:=cV.resolve_left (by rw [hk];intro h;cases h);rw [hk] at cV;rcases hc.lolo i j hi hj e cV.2.2.1 (by rw [nF];exact hl) with g|g|g|g
    ·exact .inr (.inl ⟨nI i g,hc.lt i j hi hj g⟩)
    ·exact .inr (.inr ⟨oC i g,hc.lt j i hj hi g⟩)
    ·rw [nF,DJ] at g;cases g.2
    ·unfold xW at g;rw [nF,DH] at g;unfold zW at g
     split at g
     ·rename_i h';cases h'
     ·cases g
  refine ⟨?_,?_⟩
  ·rw [←KB (base:=base) (es:=es) (H0:=H0) (j:=j) (E:=fun i=>decide (i<j)) (fun _=>rfl) ops.size (by omega)];refine Dm ops.size fun i hi=>?_;by_cases e:i=j
   ·subst e;right;simp [uj]
   ·rcases key i hi e with g|⟨g1,g2⟩|⟨g1,g2⟩
    ·exact .inl g
    ·right;simp [g1,g2]
    ·right;simp [g1,show¬i<j by omega]
  ·have e1:hS base es H0 (fun _=>true) (j+1)=(es j).eff (base+j) (hS base es H0 (fun _=>true) j):=by simp [hS]
   rw [←e1,←KB (base:=base) (es:=es) (H0:=H0) (j:=j+1) (E:=fun i=>decide (i<j+1)) (fun _=>rfl) ops.size (by omega)];refine Dm ops.size fun i hi=>?_;by_cases e:i=j
   ·subst e;right;simp [h1]
   ·rw [h2 i e];rcases key i hi e with g|⟨g1,g2⟩|⟨g1,g2⟩
    ·exact .inl g
    ·right;simp [g1,show i<j+1 by omega]
    ·right;simp [g1,show¬i<j+1 by omega]
 cases jU:es j with
 |skip=>
  rw [jU] at kp;obtain ⟨g,b,hg,hv⟩:=kp;have hw: ¬Region.wanted o (yielded ops a.tmps)=true:=by
   rcases hv with hv|hv
   ·have hy:=Jm o8 hv;simp [Region.wanted,hg,hy]
   ·have hy:=Mo o8 hv;simp [Region.wanted,hg,hy]
  rw [if_neg hw];refine hK _ _ ρ ((hs.put (d:=o.dst) (by rw [jZ];exact qz) (.tup [] [] rfl (fun i v x h=>by simp at h))).congr (fun t=>by rw [pd t,jZ,jU];rfl) (fun i=>?_));rw [Dm (E:=E') (E':=E) ops.size fun i _=>by
   by_cases e:i=j
   ·left;subst e;intro H;rw [jU];rfl
   ·right;exact h2 i e]
 |quiet r=>
  rw [jU] at kp;obtain ⟨hw,qO,hq⟩:=kp;have zr: ∀s d x,o.op= .convert s d x-> ∃e,P.underlying s=some e:=fun s d x ho=>by
   rw [ho] at qO;simp only [cvOk] at qO;cases hu:P.underlying s with
   |some e=>exact ⟨e,rfl⟩
   |none=>simp [tk,hu] at qO
  have hHE:hS base es H0 E' ops.size=hS base es H0 E ops.size:=Dm ops.size fun i _=>by
   by_cases e:i=j
   ·left;subst e;intro H;rw [jU];rfl
   ·right;exact h2 i e
  have qy: ∀(w':World) (v:Value),aC B w0 Mx N w' ρ (frS ops es fr0 E ops.size) (hS base es H0 E ops.size) a->VR w' (MM Mx (hS base es H0 E ops.size) ρ) ρ (DD (hS base es H0 E ops.size)) v r->K (a.put o.dst v) w':=fun w' v aX hv=>
   hK _ _ ρ ((aX.put (d:=o.dst) (by rw [jZ];exact qz) hv).congr (fun t=>by rw [pd t,jZ,jU];rfl) (fun i=>by rw [hHE]))
  rw [if_pos (rj hw)];left;rcases hq with ⟨lM,p,uc,hp⟩|⟨lM,hl,NN,hq⟩
  ·rw [Yn (H':=hS base es H0 E ops.size) lM] at uc;obtain ⟨v,aT,hv⟩:=Mn (P:=P) o8.objs o8.ev zr uc hp;unfold Oper.wp;rw [aT];exact qy w v hs hv
  ·obtain ⟨Dy,Nb⟩:=AE lM hl;have aJ: ∀i ob,hget (yaw (dX base dl j) (hS base es H0 (fun _=>true) j)) i=some ob->hget (hS base es H0 E ops.size) i=some ob:=fun i ob hi=>by
    rw [Th] at hi
    split at hi
    ·cases hi
    ·rename_i hnd
     rw [zV hb j (fun i hi _=>Nb i hi)] at hi;rw [zV hb ops.size (fun i _ qR=>Dy i qR)]
     split at hi
     ·rename_i hcnd
      have df:E (i-base)=true:=by
       rcases hc.new (i-base) j (by omega) hj hcnd.2.1 with g|g
       ·exact nI _ g
       ·exfalso;apply hnd;rw [List.contains_iff_mem];exact List.mem_map.2 ⟨i-base,List.contains_iff_mem.1 g,by omega⟩
      rw [if_pos ⟨hcnd.1,by omega,df,hcnd.2.2.2⟩];exact hi
     ·rename_i hcnd
      by_cases hib:base<=i
      ·rw [hb i hib] at hi;cases hi
      ·rw [if_neg (fun h=>hib h.1)];exact hi
   obtain ⟨My,Ka,zf⟩:=hs.sub aJ (fun i ob hi=>List.all_eq_true.1 NN _ (L5 hi)) (fr':=pe (yaw (dX base dl j) (hS base es H0 (fun _=>true) j)) (bW (cu ex j) (frS ops es fr0 (fun _=>true) j))) (fun t=>by
    rcases Sx (yaw (dX base dl j) (hS base es H0 (fun _=>true) j)) (bW (cu ex j) (frS ops es fr0 (fun _=>true) j)) t with g|⟨g1,g2⟩
    ·exact .inl g
    ·rcases Ov t with g3|g3
     ·left;rw [g1,g3]
     ·exact .inr ⟨by rw [g1,g3],g2⟩)
   have vP: ∀i,DD (yaw (dX base dl j) (hS base es H0 (fun _=>true) j)) i->DD (hS base es H0 E ops.size) i:=fun i ⟨q,hq⟩=>⟨q,aJ i q hq⟩
   have lL: ∀{w':World} {v:Value},VR w' (MM My (yaw (dX base dl j) (hS base es H0 (fun _=>true) j)) ρ) ρ (DD (yaw (dX base dl j) (hS base es H0 (fun _=>true) j))) v r->VR w' (MM Mx (hS base es H0 E ops.size) ρ) ρ (DD (hS base es H0 E ops.size)) v r:=fun hv=>by
    rw [Ka] at hv;exact hv.carry (Nat.le_refl _) (fun b _ hm=>⟨rfl,hm⟩) (fun k hd=>⟨vP k hd,rfl,fun arr t ha=>⟨arr,ha,rfl⟩⟩)
   rcases hq with ⟨p,uc,hp⟩|⟨f,args,ts,g,cap,ho,hf,oH⟩
   ·obtain ⟨v,aT,hv⟩:=Mn (P:=P) zf.objs zf.ev zr uc hp;unfold Oper.wp;rw [aT];exact qy w v hs (lL hv)
   ·obtain ⟨vs,ef,vG,hx⟩:=(hf▸zf.ev f).dS;obtain ⟨iw,eX⟩:=Tt (P:=P) zf oH (vs:=args.toList.map a.eval++vs) (by simp [vG]) (fun i v x g1 g2=>by
     by_cases hi:i<args.toList.length
     ·rw [List.getElem?_append_left (by simpa using hi),List.getElem?_map] at g1 g2;rw [List.getElem?_eq_getElem hi] at g1 g2;cases g1;cases g2;exact zf.ev _
     ·rw [List.getElem?_append_right (by simpa using hi)] at g1 g2;simp only [List.length_map] at g1 g2;exact hx _ v x g1 g2)
    have e1:(args.map a.eval++vs.toArray)=(args.toList.map a.eval++vs).toArray:=by obtain ⟨l⟩:=args;simp
    have aT:(execOp a.eval o).run P w= .ok (.enter g (args.toList.map a.eval++vs).toArray) w:=by
     simp only [execOp,ho,resolve,ef];have h3:(#[]++Array.map a.eval args++vs.toArray)=(args.toList.map a.eval++vs).toArray:=by rw [Array.empty_append];exact e1
     simp only [Deferred.ofValue,invoke,Sem.run_bind,Sem.run_pure,Result.andThen_ok,h3];exact Mz iw _
    unfold Oper.wp;rw [aT];refine eX.mono ?_;rintro e w' ⟨v,r',rfl,rfl,_,hv,GH⟩;exact qy w' v (hs.later GH) (lL hv)
 |alloc r ob=>
  rw [jU] at kp;obtain ⟨hw,lM,hl,sy⟩:=kp;obtain ⟨Dy,Nb⟩:=AE lM hl;have ow:hget (hS base es H0 E ops.size) (base+j)=none:=by
   rw [zV hb ops.size (fun i _ qR=>Dy i qR),if_neg (fun h=>by rw [Nat.add_sub_cancel_left,uj] at h;cases h.2.2.1)];exact hb _ (by omega)
  have qy: ∀(w':World) (v:Value) (ρ2:Nat->Addr),aC B w0 Mx N w' ρ2 (frS ops es fr0 E ops.size) ((base+j,ob)::hS base es H0 E ops.size) a->VR w' (MM Mx ((base+j,ob)::hS base es H0 E ops.size) ρ2) ρ2 (DD ((base+j,ob)::hS base es H0 E ops.size)) v r->K (a.put o.dst v) w':=fun w' v ρ2 oq hv=>by
   refine hK _ _ _ ((oq.put (d:=o.dst) (by rw [jZ];exact qz) hv).congr (fun t=>by rw [pd t,jZ,jU];rfl) (fun i=>?_));rw [zV hb ops.size (fun i _ qR=>by
    by_cases e:i=j
    ·subst e;rw [jU];rfl
    ·rw [h2 i e] at qR;exact Dy i qR)]
   simp only [hget];rw [zV hb ops.size (fun i _ qR=>Dy i qR)];by_cases e:base+j=i
   ·subst e;rw [if_pos ⟨by omega,by omega,by rw [Nat.add_sub_cancel_left];exact h1,by rw [Nat.add_sub_cancel_left,jU];rfl⟩,if_pos rfl,Nat.add_sub_cancel_left,jU];rfl
   ·rw [if_neg e];by_cases hib:base<=i
    ·have:i-base≠j:=by omega
     rw [h2 _ this]
    ·rw [if_neg (fun h=>hib h.1),if_neg (fun h=>hib h.1)]
  rw [if_pos (rj hw)];left;rcases sy with ⟨p,bZ,hp⟩|⟨NN,f,args,ts,g,cap,ho,hf,oH⟩
  ·obtain ⟨v,w',aT,aX,hv,sD,hblk⟩:=S4 (P:=P) o8 ow bZ hp;unfold Oper.wp;rw [aT];exact qy _ _ _ (aX.Bu (fr':=frS ops es fr0 E ops.size) (fun t=>by subst hblk;exact VR.laid hs ow (hs.frv t))) hv
  ·skip
   have aJ: ∀i ob,hget (yaw (dX base dl j) (hS base es H0 (fun _=>true) j)) i=some ob->hget (hS base es H0 E ops.size) i=some ob:=fun i ob hi=>by
    rw [Th] at hi
    split at hi
    ·cases hi
    ·rename_i hnd
     rw [zV hb j (fun i hi _=>Nb i hi)] at hi;rw [zV hb ops.size (fun i _ qR=>Dy i qR)]
     split at hi
     ·rename_i hcnd
      have df:E (i-base)=true:=by
       rcases hc.new (i-base) j (by omega) hj hcnd.2.1 with g|g
       ·exact nI _ g
       ·exfalso;apply hnd;rw [List.contains_iff_mem];exact List.mem_map.2 ⟨i-base,List.contains_iff_mem.1 g,by omega⟩
      rw [if_pos ⟨hcnd.1,by omega,df,hcnd.2.2.2⟩];exact hi
     ·rename_i hcnd
      by_cases hib:base<=i
      ·rw [hb i hib] at hi;cases hi
      ·rw [if_neg (fun h=>hib h.1)];exact hi
   obtain ⟨My,Ka,zf⟩:=hs.sub aJ (fun i ob hi=>List.all_eq_true.1 NN _ (L5 hi)) (fr':=pe (yaw (dX base dl j) (hS base es H0 (fun _=>true) j)) (bW (cu ex j) (frS ops es fr0 (fun _=>true) j))) (fun t=>by
    rcases Sx (yaw (dX base dl j) (hS base es H0 (fun _=>true) j)) (bW (cu ex j) (frS ops es fr0 (fun _=>true) j)) t with g|⟨g1,g2⟩
    ·exact .inl g
    ·rcases Ov t with g3|g3
     ·left;rw [g1,g3]
     ·exact .inr ⟨by rw [g1,g3],g2⟩)
   have vP: ∀i,DD (yaw (dX base dl j) (hS base es H0 (fun _=>true) j)) i->DD (hS base es H0 E ops.size) i:=fun i ⟨q,hq⟩=>⟨q,aJ i q hq⟩;obtain ⟨vs,ef,vG,hx⟩:=(hf▸zf.ev f).dS;obtain ⟨iw,eX⟩:=Yt (P:=P) zf oH (vs:=args.toList.map a.eval++vs) (by simp [vG]) (fun i v x g1 g2=>by
    by_cases hi:i<args.toList.length
    ·rw [List.getElem?_append_left (by simpa using hi),List.getElem?_map] at g1 g2;rw [List.getElem?_eq_getElem hi] at g1 g2;cases g1;cases g2;exact zf.ev _
    ·rw [List.getElem?_append_right (by simpa using hi)] at g1 g2;simp only [List.length_map] at g1 g2;exact hx _ v x g1 g2)
   have e1:(args.map a.eval++vs.toArray)=(args.toList.map a.eval++vs).toArray:=by obtain ⟨l⟩:=args;simp
   have aT:(execOp a.eval o).run P w= .ok (.enter g (args.toList.map a.eval++vs).toArray) w:=by
    simp only [execOp,ho,resolve,ef];have h3:(#[]++Array.map a.eval args++vs.toArray)=(args.toList.map a.eval++vs).toArray:=by rw [Array.empty_append];exact e1
    simp only [Deferred.ofValue,invoke,Sem.run_bind,Sem.run_pure,Result.andThen_ok,h3];exact Mz iw _
   unfold Oper.wp;rw [aT];refine eX.mono ?_;rintro e w' ⟨v,gO,n,t,l,ρ',M0,rfl,⟨rfl,rfl⟩,hk,hv⟩;obtain ⟨j1,j2⟩:=hs.FL ow rfl hk;exact qy _ _ _ j1 (j2 _ _ _ hv)
 |store id ob=>
  rw [jU] at kp;obtain ⟨hw,lM,hl,t,x,y,p,ho,aR,hp⟩:=kp;have DJ:yev o.op=false:=by rw [ho];rfl
  have kinds: ∀i,i<ops.size->i≠j->(∀H,(es i).eff (base+i) H=H)\/(E i=true/\i<j)\/(E i=false/\j<i)\/ ∃bO rh,es i= .store bO rh/\bO≠id:=fun i hi e=>by
   have cV:=km i hi;have JY:loud (ops.getD i default).op=true->(E i=true/\i<j)\/(E i=false/\j<i)\/(((mA ops).getD j []).contains i=false/\((mA ops).getD i []).contains j=false/\xW ops (ops.getD i default).op o.op=true):=fun sz=>by
    cases g1:((mA ops).getD j []).contains i with
    |true=>exact .inl ⟨nI i g1,hc.lt i j hi hj g1⟩
    |false=>
     cases g2:((mA ops).getD i []).contains j with
     |true=>exact .inr (.inl ⟨oC i g2,hc.lt j i hj hi g2⟩)
     |false=>
      rcases hc.lolo i j hi hj e sz (by rw [nF];exact hl) with g|g|g|g
      ·rw [g1] at g;cases g
      ·rw [g2] at g;cases g
      ·rw [nF,DJ] at g;cases g.2
      ·rw [nF] at g;exact .inr (.inr ⟨rfl,rfl,g⟩)
   cases hk:es i with
   |skip=>left;intro H;rfl
   |quiet r=>left;intro H;rfl
   |alloc r rh=>
    replace cV:=cV.resolve_left (by rw [hk];intro h;cases h);rw [hk] at cV
    have:=hc.lo i j hi hj e cV.2.1 cV.2.2.1 (by rw [nF];exact hl)
    exact .inr (.inl ⟨nI i this,hc.lt i j hi hj this⟩)
   |ins bO n' x'=>
    replace cV:=cV.resolve_left (by rw [hk];intro h;cases h);rw [hk] at cV;obtain ⟨_,_,h3,t1,m1,k1,v1,p1,yv,_⟩:=cV
    have:=hc.ins i j hi hj e (by rw [yv];rfl) (by rw [nF];exact hl)
    rw [nF,DJ] at this;cases this
   |app r g' rh=>
    replace cV:=cV.resolve_left (by rw [hk];intro h;cases h);rw [hk] at cV;obtain ⟨_,_,h3,s1,x1,t1,p1,yv,_⟩:=cV;rcases JY h3 with g|g|⟨_,_,g⟩
    ·exact .inr (.inl g)
    ·exact .inr (.inr (.inl g))
    ·rw [yv] at g;cases g
   |store bO rh=>
    replace cV:=cV.resolve_left (by rw [hk];intro h;cases h);rw [hk] at cV;obtain ⟨_,_,h3,t1,x1,y1,p1,yv,BO,aB⟩:=cV;rcases JY h3 with g|g|⟨u1,u2,g⟩
    ·exact .inr (.inl g)
    ·exact .inr (.inr (.inl g))
    ·refine .inr (.inr (.inr ⟨bO,rh,rfl,?_⟩));unfold xW at g;have gg: ∀a b,stP (ops.getD i default).op=some a->stP o.op=some b->zW ops (some a) (some b)=true:=fun a b h1 h2=>by rw [←h1,←h2];exact g
     cases ha:stP (ops.getD i default).op with
     |none=>rw [ha] at g;cases g
     |some a=>
      cases lT:stP o.op with
      |none=>rw [ha,lT] at g;cases g
      |some b=>
       have g2:=gg a b ha lT;simp only [zW,Bool.and_eq_true,bne_iff_ne] at g2;have oq:=wI i j a b hi hj e u1 u2 ha (by rw [nF];exact lT) g2.1.2 g2.2 g2.1.1;obtain ⟨off1,e1⟩:=Q7 (ops:=ops) (es:=es) (fr0:=fr0) yv ha g2.1.2 BO;obtain ⟨off2,e2⟩:=Q7 (ops:=ops) (es:=es) (fr0:=fr0) ho lT g2.2 aR;unfold sep2 at oq;rw [e1,e2] at oq
       simp only [sepV,Bool.or_eq_true,beq_iff_eq,bne_iff_ne] at oq;rcases oq with h|h
       ·exact absurd h g2.1.1
       ·exact h
  have L1: ∀k,k<=ops.size->hget (hS base es H0 E k) id=hget (hS base es H0 (fun _=>true) (min k j)) id:=by
   intro k
   induction k with
   |zero=>intro _;simp [hS]
   |succ k ih=>
    intro hk;have dp:=ih (by omega);by_cases e:k=j
    ·subst e;simp only [hS,uj,if_false,Bool.false_eq_true];rw [dp,Nat.min_self,show min (k+1) k=k by omega]
    ·by_cases Oh:k<j
     ·rw [show min (k+1) j=k+1 by omega];rw [show min k j=k by omega] at dp;simp only [hS,if_true];rcases kinds k (by omega) e with g1|⟨g1,_⟩|⟨_,g2⟩|⟨bO,rh,g1,g2⟩
      ·rw [g1,g1];split<;>exact dp
      ·rw [if_pos g1];exact Xx _ _ dp
      ·omega
      ·rw [g1];simp only [Ent.eff];rw [jW g2]
       split
       ·rw [jW g2];exact dp
       ·exact dp
     ·rw [show min (k+1) j=j by omega];rw [show min k j=j by omega] at dp;simp only [hS]
      split
      ·rename_i GP
       rcases kinds k (by omega) e with g1|⟨_,g2⟩|⟨g1,_⟩|⟨bO,rh,g1,g2⟩
       ·rw [g1];exact dp
       ·omega
       ·rw [g1] at GP;cases GP
       ·rw [g1];simp only [Ent.eff];rw [jW g2];exact dp
      ·exact dp
  have hid:=L1 ops.size (Nat.le_refl _);rw [show min ops.size j=j by omega] at hid;rw [←Xw aR hid] at aR;have L2: ∀k,j<k->k<=ops.size-> ∀i,hget (hS base es H0 E' k) i=hget (hset (hS base es H0 E k) id ob) i:=by
   intro k
   induction k with
   |zero=>intro h;omega
   |succ k ih=>
    intro wU hk i;by_cases e:k=j
    ·subst e;have s8:hS base es H0 E' k=hS base es H0 E k:=by
      have gen: ∀q,q<=k->hS base es H0 E' q=hS base es H0 E q:=by
       intro q
       induction q with
       |zero=>intro _;rfl
       |succ q ihq=>intro hq;simp only [hS];rw [ihq (by omega),h2 q (by omega)]
      exact gen k (Nat.le_refl _)
     simp only [hS,h1,if_true,uj,Bool.false_eq_true,if_false,jU,Ent.eff];rw [s8]
    ·have dp:=ih (by omega) (by omega);simp only [hS,h2 k e]
     split
     ·rename_i GP
      rcases kinds k (by omega) e with g1|⟨_,g2⟩|⟨g1,_⟩|⟨bO,rh,g1,g2⟩
      ·rw [g1,g1];exact dp i
      ·omega
      ·rw [g1] at GP;cases GP
      ·rw [g1];simp only [Ent.eff];rw [Ad,Ad,Ad,dp i,Ad];by_cases e1:bO=i
       ·rw [if_pos e1,if_neg (fun h=>g2 (e1.trans h.symm)),if_neg (fun h=>g2 (e1.trans h.symm)),if_pos e1]
       ·rw [if_neg e1,if_neg e1]
     ·exact dp i
  obtain ⟨w',aT,aX⟩:=Ta (P:=P) hs (o8.ev x) (o8.ev y) aR hp;rw [if_pos (rj hw)];left;have rn:(execOp a.eval o).run P w= .ok .skip w':=by simp only [execOp,ho];simp [aT]
  unfold Oper.wp;rw [rn];refine hK _ _ _ ((aX.put (d:=o.dst) (by rw [jZ];exact qz) (.any _)).congr (fun t=>by rw [pd t,jZ,jU];rfl) (fun i=>?_));rw [L2 ops.size hj (Nat.le_refl _) i]
 |app r g ob=>
  rw [jU] at kp;obtain ⟨hw,lM,hl,sx,x,t,p,ho,aR,hp⟩:=kp;obtain ⟨OW,OV⟩:=Gj hl (by rw [ho];rfl) (by rw [ho];rfl);rw [←OW] at aR;have ow:hget (hS base es H0 E ops.size) (base+j)=none:=by
   rw [OW];have gen: ∀k,k<=j-> ∀i,base+k<=i->hget (hS base es H0 (fun _=>true) k) i=none:=by
    intro k
    induction k with
    |zero=>intro _ i hi;exact hb i (by omega)
    |succ k ih=>
     intro hk i hi;have dp:=ih (by omega) i (by omega);simp only [hS,if_true];cases Gy:es k with
     |skip=>exact dp
     |quiet r=>exact dp
     |alloc r ob=>simp only [Ent.eff,hget];rw [if_neg (by omega)];exact dp
     |store id ob=>
      simp only [Ent.eff];by_cases e:id=i
      ·subst e;have DI: ∀(H:Hp),hget H id=none->hget (hset H id ob) id=none:=fun H hH=>by
        induction H with
        |nil=>rfl
        |cons q r ihr=>
         obtain ⟨m,oo⟩:=q;simp only [hget] at hH
         split at hH
         ·cases hH
         ·rename_i hm;simp only [hset,hm,if_false,hget];exact ihr hH
       exact DI _ dp
      ·rw [jW e];exact dp
     |ins id n x=>
      have:=hc.ins k j (by omega) hj (by omega) (by
       have Gx:=(km k (by omega)).resolve_left (by rw [Gy];intro h;cases h);rw [Gy] at Gx;obtain ⟨_,_,_,t',m',k',v',p',AD,_⟩:=Gx;rw [AD];rfl) (by rw [nF];exact hl)
      rw [nF,ho] at this;cases this
     |app r g ob=>
      simp only [Ent.eff,hget];rw [if_neg (by omega)];cases g with
      |none=>exact dp
      |some id=>
       simp only [hgo];by_cases e:id=i
       ·subst e;have DI: ∀(H:Hp),hget H id=none->hget (hset H id .gone) id=none:=fun H hH=>by
         induction H with
         |nil=>rfl
         |cons q r ihr=>
          obtain ⟨m,oo⟩:=q;simp only [hget] at hH
          split at hH
          ·cases hH
          ·rename_i hm;simp only [hset,hm,if_false,hget];exact ihr hH
        exact DI _ dp
       ·rw [jW e];exact dp
   exact gen j (Nat.le_refl _) _ (Nat.le_refl _)
  obtain ⟨z,w',ρ',aT,aX,hv⟩:=XK (P:=P) (ty:=o.type) hs ow (o8.ev sx) (o8.ev x) aR hp;rw [if_pos (rj hw)];left;have rn:(execOp a.eval o).run P w= .ok (.value z) w':=by simp [execOp,ho,resolve,invoke,builtin,aT]
  unfold Oper.wp;rw [rn];refine hK _ _ _ ((aX.put (d:=o.dst) (by rw [jZ];exact qz) hv).congr (fun t=>by rw [pd t,jZ,jU];rfl) (fun i=>?_));rw [OV,jU,OW];rfl
 |ins id n x=>
  rw [jU] at kp;obtain ⟨hw,lM,hl,t,mo,ko,vo,p,ho,aR,hp⟩:=kp;obtain ⟨kt,et,eG,dD,em,ek,ev,t',g,hg,B9⟩:=Q8 aR hp;have ke:yev (ops.getD j default).op=true:=by rw [nF,ho];rfl
  have kinds: ∀i,i<ops.size->i≠j->(∀H,(es i).eff (base+i) H=H)\/(i<j/\E i=true/\ ∃r ob,es i= .alloc r ob)\/ ∃bO n' x',es i= .ins bO n' x':=fun i hi e=>by
   have cV:=km i hi;cases hk:es i with
   |skip=>left;intro H;rfl
   |quiet r=>left;intro H;rfl
   |alloc r rh=>
    replace cV:=cV.resolve_left (by rw [hk];intro h;cases h);rw [hk] at cV
    have:=hc.lo i j hi hj e cV.2.1 cV.2.2.1 (by rw [nF];exact hl)
    exact .inr (.inl ⟨hc.lt i j hi hj this,nI i this,r,rh,rfl⟩)
   |store bO rh=>
    replace cV:=cV.resolve_left (by rw [hk];intro h;cases h);rw [hk] at cV;obtain ⟨_,_,h3,t1,x1,y1,p1,yv,_⟩:=cV
    have:=hc.ins j i hj hi (Ne.symm e) ke h3
    rw [yv] at this;cases this
   |app r g' rh=>
    replace cV:=cV.resolve_left (by rw [hk];intro h;cases h);rw [hk] at cV;obtain ⟨_,_,h3,t1,x1,y1,p1,yv,_⟩:=cV
    have:=hc.ins j i hj hi (Ne.symm e) ke h3
    rw [yv] at this;cases this
   |ins bO n' x'=>exact .inr (.inr ⟨bO,n',x',rfl⟩)
  have L1: ∀k,k<=ops.size->yl (hS base es H0 E k) id=yl (hS base es H0 (fun _=>true) (min k j)) id:=by
   intro k
   induction k with
   |zero=>intro _;simp [hS]
   |succ k ih=>
    intro hk;have dp:=ih (by omega);by_cases e:k=j
    ·subst e;simp only [hS,uj,if_false,Bool.false_eq_true];rw [dp,Nat.min_self,show min (k+1) k=k by omega]
    ·by_cases Oh:k<j
     ·rw [show min (k+1) j=k+1 by omega];rw [show min k j=k by omega] at dp;simp only [hS,if_true];rcases kinds k (by omega) e with g1|⟨_,g2,r,ob,g3⟩|⟨bO,n',x',g1⟩
      ·rw [g1,g1];split<;>exact dp
      ·rw [if_pos g2,g3];simp only [Ent.eff,yl,hget]
       split
       ·rfl
       ·exact dp
      ·rw [g1];simp only [Ent.eff,Ls]
       split
       ·rw [Ls];exact dp
       ·exact dp
     ·rw [show min (k+1) j=j by omega];rw [show min k j=j by omega] at dp;simp only [hS]
      split
      ·rcases kinds k (by omega) e with g1|⟨g2,_⟩|⟨bO,n',x',g1⟩
       ·rw [g1];exact dp
       ·omega
       ·rw [g1];simp only [Ent.eff,Ls];exact dp
      ·exact dp
  have Wo:=L1 ops.size (Nat.le_refl _);rw [show min ops.size j=j by omega] at Wo;have Oh:yl (hS base es H0 (fun _=>true) j) id=some t':=by unfold yl;rw [hg];rfl
  obtain ⟨gE,Wv⟩: ∃gE,hget (hS base es H0 E ops.size) id=some (.fmap t' (.ints gE)):=y3x (Wo.trans Oh);have L3: ∀k,j<k->k<=ops.size->(Cv (hS base es H0 (fun _=>true) k) id n).isSome=true:=by
   intro k
   induction k with
   |zero=>intro h;omega
   |succ k ih=>
    intro wU hk;by_cases e:k=j
    ·subst e;simp only [hS,if_true,jU,Ent.eff];rw [y3y hg];rfl
    ·have dp:=ih (by omega) (by omega);simp only [hS,if_true];rcases kinds k (by omega) e with g1|⟨g2,_⟩|⟨bO,n',x',g1⟩
     ·rw [g1];exact dp
     ·omega
     ·rw [g1];simp only [Ent.eff];exact y64 dp
  have GA: ∀k,j<k->k<ops.size-> ∀bO n' x',es k= .ins bO n' x'->bO≠id\/n'≠n:=by
   intro k wU hk bO n' x' Gy;have AK:=(km k hk).resolve_left (by rw [Gy];intro h;cases h);rw [Gy] at AK;obtain ⟨_,_,_,t1,m1,k1,v1,p1,yv,BO,aB⟩:=AK;obtain ⟨_,_,_,_,_,_,_,t2,g2,zq,Ou⟩:=Q8 BO aB;by_cases e1:bO=id
   ·by_cases e2:n'=n
    ·exfalso;subst e1 e2
     have:=L3 k wU (by omega)
     unfold Cv at this;rw [zq] at this;simp only [Kn,Ou] at this;cases this
    ·exact .inr e2
   ·exact .inl e1
  have L2: ∀k,j<k->k<=ops.size-> ∀i,hget (hS base es H0 E' k) i=hget (insE (hS base es H0 E k) id n x) i:=by
   intro k
   induction k with
   |zero=>intro h;omega
   |succ k ih=>
    intro wU hk i;by_cases e:k=j
    ·subst e;have s8:hS base es H0 E' k=hS base es H0 E k:=by
      have gen: ∀q,q<=k->hS base es H0 E' q=hS base es H0 E q:=by
       intro q
       induction q with
       |zero=>intro _;rfl
       |succ q ihq=>intro hq;simp only [hS];rw [ihq (by omega),h2 q (by omega)]
      exact gen k (Nat.le_refl _)
     simp only [hS,h1,if_true,uj,Bool.false_eq_true,if_false,jU,Ent.eff];rw [s8]
    ·have dp:=ih (by omega) (by omega);simp only [hS,h2 k e]
     split
     ·rcases kinds k (by omega) e with g1|⟨g2,_⟩|⟨bO,n',x',g1⟩
      ·rw [g1,g1];exact dp i
      ·omega
      ·rw [g1];simp only [Ent.eff];exact Xy dp (GA k (by omega) (by omega) bO n' x' g1) i
     ·exact dp i
  have hmu:muF P (hS base es H0 E ops.size) t (.mp id) (.int .i64 n) (.int .i64 x)=some (id, .fmap t' (.ints (updI gE n x))):=by
   unfold muF;rw [eG];simp only [dD,muK,Wv,muM]
  have yy:=o8.ev mo;have AL:=o8.ev ko;have tY:=o8.ev vo;rw [em] at yy;rw [ek] at AL;rw [ev] at tY;obtain ⟨w',aT,aX⟩:=S9 (P:=P) hs yy AL tY hmu;rw [if_pos (rj hw)];left;have rn:(execOp a.eval o).run P w= .ok .skip w':=by simp only [execOp,ho];simp [aT]
  unfold Oper.wp;rw [rn];refine hK _ _ _ ((aX.put (d:=o.dst) (by rw [jZ];exact qz) (.any _)).congr (fun t=>by rw [pd t,jZ,jU];rfl) (fun i=>?_));rw [L2 ops.size hj (Nat.le_refl _) i];unfold insE;rw [Wv];rfl
theorem SS {q:Nat} (hq:q<=ops.size) {H:Hp} {fr:Fr} (hc:PD ops ex dl) (wI: ∀i j a b,i<ops.size->j<ops.size->i≠j->((mA ops).getD j []).contains i=false->((mA ops).getD i []).contains j=false->stP (ops.getD i default).op=some a->stP (ops.getD j default).op=some b->vZ ops a=true->vZ ops b=true->a≠b->sep2 fr a b=true)
  (km: ∀j,j<ops.size->es j= .skip\/xV P ops (hnew H) ex dl j (ops.getD j default) (frS ops es fr (fun _=>true) j) (hS (hnew H) es H (fun _=>true) j) (es j))
  (kp: ∀j,j<q->dok (jk ops j) N=true/\xV P ops (hnew H) ex dl j (ops.getD j default) (frS ops es fr (fun _=>true) j) (hS (hnew H) es H (fun _=>true) j) (es j))
  (rC: ∀j,q<=j->j<ops.size-> ∀i,i<q->((mA ops).getD j []).contains i=true) (Q:Exit->Act->World->Prop)
  (post: ∀(listed:Array Bool) (a:Act) (w:World) (ρ:Nat->Addr),listed.size=ops.size->(∀i,i<ops.size->listed.getD i false=decide (i<q))->aC B w0 Mx N w ρ (frS ops es fr (fun _=>true) q) (hS (hnew H) es H (fun _=>true) q) a->wpAny P .any ops Q (ops.size-q) listed a w):
  ∀(f:Nat) (listed:Array Bool) (a:Act) (w:World),listed.size=ops.size->cntE (fun i=>listed.getD i false) ops.size+f=q->(∀i,q<=i->listed.getD i false=false)->Db ops (fun i=>listed.getD i false)->
   (∃ρ,aC B w0 Mx N w ρ (frS ops es fr (fun i=>listed.getD i false) ops.size) (hS (hnew H) es H (fun i=>listed.getD i false) ops.size) a)->
   wpAny P .any ops Q (ops.size-q+f) listed a w:=by
 have G6: ∀(E:Nat->Bool),(∀i,q<=i->E i=false)->cntE E ops.size=cntE E q:=by
  intro E hE;have gen: ∀d,q+d<=ops.size->cntE E (q+d)=cntE E q:=by
   intro d
   induction d with
   |zero=>intro _;rfl
   |succ d ih=>intro hd;rw [←Nat.add_assoc];simp only [cntE,hE (q+d) (by omega),Bool.false_eq_true,if_false];exact ih (by omega)
  have:=gen (ops.size-q) (by omega)
  rwa [show q+(ops.size-q)=ops.size by omega] at this
 intro f
 induction f with
 |zero=>
  intro listed a w jX Ci iy aY ⟨ρ,hs⟩;rw [G6 _ iy] at Ci;have cg:=Sv q (by omega:cntE (fun i=>listed.getD i false) q=q);have sz: ∀i,i<ops.size->listed.getD i false=decide (i<q):=fun i hi=>by
   by_cases e:i<q
   ·rw [cg i e];simp [e]
   ·rw [iy i (by omega)];simp [e]
  have e1: ∀t,fget (frS ops es fr (fun _=>true) q) t=fget (frS ops es fr (fun i=>listed.getD i false) ops.size) t:=fun t=>by
   rw [←P6 (ops:=ops) (es:=es) (fr0:=fr) (j:=q) (E:=fun i=>decide (i<q)) (fun _=>rfl) ops.size hq];exact Jb ops.size fun i hi _=>(sz i hi).symm
  have e2:hS (hnew H) es H (fun _=>true) q=hS (hnew H) es H (fun i=>listed.getD i false) ops.size:=by
   rw [←KB (base:=hnew H) (es:=es) (H0:=H) (j:=q) (E:=fun i=>decide (i<q)) (fun _=>rfl) ops.size hq];exact Dm ops.size fun i hi=> .inr (sz i hi).symm
  exact post listed a w ρ jX sz (hs.congr e1 (fun i=>by rw [e2]))
 |succ f ih=>
  intro listed a w jX Ci iy aY ⟨ρ,hs⟩;have cS: ∃j,j<q/\listed.getD j false=false:=by
   refine Classical.byContradiction fun hn=>?_;have cg: ∀i,i<q->listed.getD i false=true:=fun i hi=>by
    cases hh:listed.getD i false with
    |true=>rfl
    |false=>exact absurd ⟨i,hi,hh⟩ hn
   have oH: ∀k,k<=q->cntE (fun i=>listed.getD i false) k=k:=by
    intro k
    induction k with
    |zero=>intro _;rfl
    |succ k dp=>intro hk;simp only [cntE,dp (by omega),cg k (by omega),if_true]
   rw [G6 _ iy,oH q (Nat.le_refl _)] at Ci;omega
  refine ⟨fun gZ=>?_,fun j hj=>?_⟩
  ·exfalso;obtain ⟨j0,hj0,hf0⟩:=cS;have gen: ∀m,∀j,j<=m->j<q->listed.getD j false=false-> ∃j,j<q/\listed.getD j false=false/\ ∀i,i<j->listed.getD i false=true:=by
    intro m
    induction m with
    |zero=>intro j uf hj hf;exact ⟨j,hj,hf,fun i hi=>by omega⟩
    |succ m ihm=>
     intro j uf hj hf;by_cases tZ: ∃i,i<j/\listed.getD i false=false
     ·obtain ⟨i,ke,wY⟩:=tZ;exact ihm i (by omega) (by omega) wY
     ·refine ⟨j,hj,hf,fun i hi=>?_⟩;cases hh:listed.getD i false with
      |true=>rfl
      |false=>exact absurd ⟨i,hi,hh⟩ tZ
   obtain ⟨j,hj,hf,tZ⟩:=gen j0 j0 (Nat.le_refl _) hj0 hf0;have hj:j<ops.size:=by omega
   have:j∈Region.ready .any ops listed:=mem_ready.2 ⟨by
    have mV:j<listed.size:=by omega
    simpa [mV] using hf,ops[j],by simp [hj],fun e he yA=>tZ _ (hc.elt j hj e.on (by
     simp only [qX,List.mem_map,List.mem_filter];exact ⟨e,⟨by simpa [hj] using he,yA⟩,rfl⟩))⟩
   rw [gZ] at this;cases this
  ·obtain ⟨g1,o,g2,g3⟩:=mem_ready.1 hj;have iQ:j<ops.size:=(Array.getElem?_eq_some_iff.1 g2).1;have mV:j<listed.size:=by omega
   have uj:listed.getD j false=false:=by simpa [mV] using g1
   have ho:ops.getD j default=o:=by simp [g2]
   have w6: ∀e∈qX (ops.getD j default),listed.getD e false=true:=fun e he=>by
    rw [ho] at he;simp only [qX,List.mem_map,List.mem_filter] at he;obtain ⟨x,⟨Ny,BH⟩,rfl⟩:=he;exact g3 x (by simpa using Ny) BH
   have ue:j<q:=by
    rcases Nat.lt_or_ge j q with g|g
    ·exact g
    ·obtain ⟨i,hi,wY⟩:=cS
     have:=K5 (E:=fun i=>listed.getD i false) aY (rC j g iQ i hi) w6
     rw [wY] at this;cases this
   have wG:(listed.setIfInBounds j true).getD j false=true:=by simp [mV]
   have rm: ∀i,i≠j->(listed.setIfInBounds j true).getD i false=listed.getD i false:=fun i hi=>getD_set_ne false (Ne.symm hi)
   refine Xv (P:=P) (N:=N) (ex:=ex) (dl:=dl) hc wI (fun i hi=>Dp hi) km aY (fun i hi=>?_) iQ (kp j ue).1 (kp j ue).2 uj w6 hs (E':=fun i=>(listed.setIfInBounds j true).getD i false) wG rm _ _ (fun a' w' ρ' aX=>ih _ a' w' (by simpa using jX) ?_ ?_ ?_ ⟨ρ',aX⟩)
   ·have pb:i<listed.size:=by
     rcases Nat.lt_or_ge i listed.size with g|g
     ·exact g
     ·simp [Nat.not_lt.2 g] at hi
    omega
   ·have:=Su (E:=fun i=>listed.getD i false) (E':=fun i=>(listed.setIfInBounds j true).getD i false) uj wG rm ops.size
    rw [if_pos iQ] at this;omega
   ·intro i hi;rw [rm i (by omega)];exact iy i hi
   ·intro k hk i hi;show (listed.setIfInBounds j true).getD i false=true;have hk:(listed.setIfInBounds j true).getD k false=true:=hk;by_cases e:i=j
    ·subst e;exact wG
    ·rw [rm i e];by_cases ek:k=j
     ·subst ek;exact w6 i hi
     ·rw [rm k ek] at hk;exact aY k hk i hi
theorem Tg {q:Nat} {H:Hp} {fr:Fr} {a:Act} {w:World} {ρ:Nat->Addr} {Q:Exit->Act->World->Prop} (hq:q<=ops.size) (hs:aC B w0 Mx N w ρ fr H a)
  (Gi: ∀(f:Nat) (listed:Array Bool) (a:Act) (w:World),listed.size=ops.size->cntE (fun i=>listed.getD i false) ops.size+f=q->(∀i,q<=i->listed.getD i false=false)->Db ops (fun i=>listed.getD i false)->
   (∃ρ,aC B w0 Mx N w ρ (frS ops es fr (fun i=>listed.getD i false) ops.size) (hS (hnew H) es H (fun i=>listed.getD i false) ops.size) a)->
   wpAny P .any ops Q (ops.size-q+f) listed a w):wpAny P .any ops Q ops.size (Array.replicate ops.size false) a {w with drawn:=w.drawn+1}:=by
 have h0:=Gi q (Array.replicate ops.size false) a {w with drawn:=w.drawn+1} (by simp) ?_ (fun i _=>Ae _ _) (fun j hj=>?_) ⟨ρ,(hs.draw).congr (fun t=>?_) (fun i=>?_)⟩
 ·rwa [show ops.size-q+q=ops.size by omega] at h0
 ·have: ∀k,cntE (fun i=>(Array.replicate ops.size false).getD i false) k=0:=by
   intro k
   induction k with
   |zero=>rfl
   |succ k dp=>simp only [Ae] at dp;simp only [cntE,Ae,dp];rfl
  rw [this];omega
 ·exfalso;have hj:(Array.replicate ops.size false).getD j false=true:=hj;rw [Ae] at hj;cases hj
 ·have: ∀k,frS ops es fr (fun i=>(Array.replicate ops.size false).getD i false) k=fr:=by
   intro k
   induction k with
   |zero=>rfl
   |succ k dp=>simp only [Ae] at dp;simp only [frS,Ae,dp];rfl
  rw [this]
 ·have: ∀k,hS (hnew H) es H (fun i=>(Array.replicate ops.size false).getD i false) k=H:=by
   intro k
   induction k with
   |zero=>rfl
   |succ k dp=>simp only [Ae] at dp;simp only [hS,Ae,dp];rfl
  rw [this]
theorem SR {listed:Array Bool} (jX:listed.size=ops.size) (cg: ∀i,i<ops.size->listed.getD i false=true):Region.ready .any ops listed=[]:=by
 rw [List.eq_nil_iff_forall_not_mem];intro j hj;obtain ⟨g1,o,g2,_⟩:=mem_ready.1 hj;have iQ:j<ops.size:=(Array.getElem?_eq_some_iff.1 g2).1
 have:=cg j iQ
 have mV:j<listed.size:=by omega
 simp [mV] at this g1;rw [this] at g1;cases g1
theorem bd.BE {id:Nat} {fr:Fr} {H:Hp} {Q:Exit->Fr->Hp->Prop} (ex dl:List (List Nat)) (oE:(G8 ops ex dl&&(ex.length==ops.size)&&(dl.length==ops.size))=true) (hm:P.follows .mixedOrders=true)
  (wI: ∀i j a b,i<ops.size->j<ops.size->i≠j->((mA ops).getD j []).contains i=false->((mA ops).getD i []).contains j=false->stP (ops.getD i default).op=some a->stP (ops.getD j default).op=some b->vZ ops a=true->vZ ops b=true->a≠b->sep2 fr a b=true)
  (h:awD P N ops (hnew H) 0 ops.toList ex dl fr H (Q .normal)):bd P N id ops fr H Q:=by
 simp only [Bool.and_eq_true,beq_iff_eq] at oE;obtain ⟨⟨jC,nU⟩,B6⟩:=oE;have hc:=P5 jC;obtain ⟨es,h1,h2⟩:=LV (P:=P) (N:=N) (ops:=ops) (base:=hnew H) (ex:=ex) (dl:=dl) ops.size 0 fr H (by omega) nU B6 (by
  rw [List.take_of_length_le (by simp)];simpa using h)
 have km: ∀j,j<ops.size->dok (jk ops j) N=true/\xV P ops (hnew H) ex dl j (ops.getD j default) (frS ops es fr (fun _=>true) j) (hS (hnew H) es H (fun _=>true) j) (es j):=fun j hj=>by
  obtain ⟨g1,fr',H',g2,g3,g4⟩:=h1 j hj;rw [Nat.zero_add] at g1 g4;rw [EB] at g2;rw [D5] at g3;subst g2 g3;exact ⟨g1,g4⟩
 rw [EB,D5] at h2;refine ⟨fun B w0 Mx w ρ a hs=>wp_region_any hm (Tg (q:=ops.size) (Nat.le_refl _) hs (SS (Nat.le_refl _) hc wI (fun j hj=> .inr (km j hj).2) km (fun j h1 h2=>by omega) _ (fun listed a w ρ jX sz hs=>?_)))⟩;rw [Nat.sub_self];exact ⟨SR jX (fun i hi=>by rw [sz i hi];simp [hi]),ρ,_,_,h2,hs⟩
def yw4 (P:Program) (N:Nat) (ops:Array Oper) (K:Fr->Hp->Prop) (fr:Fr) (H:Hp):Prop:=awL P N ops (ops.toList.drop (ops.size-1)) fr H K
theorem bd.aH {id:Nat} {fr:Fr} {H:Hp} {Q:Exit->Fr->Hp->Prop} (ex dl:List (List Nat)) (oE:(G8 ops ex dl&&(ex.length==ops.size)&&(dl.length==ops.size)&&Ux ops&&Rc ops)=true) (hm:P.follows .mixedOrders=true)
  (h:awD P N ops (hnew H) 0 (ops.toList.take (ops.size-1)) ex dl fr H (yw4 P N ops (Q .normal))):bd P N id ops fr H Q:=by
 simp only [Bool.and_eq_true,beq_iff_eq] at oE;obtain ⟨⟨⟨⟨jC,nU⟩,B6⟩,vJ⟩,DL⟩:=oE;have hc:=P5 jC;unfold Rc at DL;simp only [Bool.and_eq_true,decide_eq_true_eq,Option.isNone_iff_eq_none,List.all_eq_true,List.mem_range] at DL;obtain ⟨⟨qu,B9⟩,nI⟩:=DL
 obtain ⟨gO,h1',DW⟩:=LV (P:=P) (N:=N) (ops:=ops) (base:=hnew H) (ex:=ex) (dl:=dl) (ops.size-1) 0 fr H (by omega) nU B6 (by simpa only [List.drop_zero] using h);obtain ⟨es,Oy,Gw⟩: ∃es:Nat->Ent,es (ops.size-1)= .skip/\ ∀i,i<ops.size-1->es i=gO i:=⟨fun i=>if i<ops.size-1 then gO i else .skip,by simp,fun i hi=>by simp [hi]⟩
 have dI: ∀k,k<=ops.size-1->frS ops es fr (fun _=>true) k=frS ops gO fr (fun _=>true) k/\hS (hnew H) es H (fun _=>true) k=hS (hnew H) gO H (fun _=>true) k:=by
  intro k
  induction k with
  |zero=>intro _;exact ⟨rfl,rfl⟩
  |succ k ih=>
   intro hk;obtain ⟨i1,i2⟩:=ih (by omega);simp only [frS,hS,if_true,i1,i2,Gw k (by omega),and_self]
 have km: ∀j,j<ops.size-1->dok (jk ops j) N=true/\xV P ops (hnew H) ex dl j (ops.getD j default) (frS ops es fr (fun _=>true) j) (hS (hnew H) es H (fun _=>true) j) (es j):=fun j hj=>by
  obtain ⟨g1,fr',H',g2,g3,g4⟩:=h1' j hj;rw [Nat.zero_add] at g1 g4;rw [EB] at g2;rw [D5] at g3;subst g2 g3;rw [(dI j (by omega)).1,(dI j (by omega)).2,Gw j hj];exact ⟨g1,g4⟩
 rw [EB,D5,←(dI (ops.size-1) (Nat.le_refl _)).1,←(dI (ops.size-1) (Nat.le_refl _)).2] at DW;refine ⟨fun B w0 Mx w ρ a hs=>wp_region_any hm (Tg (q:=ops.size-1) (by omega) hs (SS (by omega) hc (fun i j a b hi hj ax h1 h2 ha hb ua ub lW=>?_) (fun j hj=>?_) km (fun j h1 h2 i hi=>?_) _ (fun listed a w ρ jX sz hs=>?_)))⟩
 ·exfalso;have h0:=List.all_eq_true.1 (List.all_eq_true.1 vJ j (by simpa using hj)) i (by simpa using hi);simp only [Bool.or_eq_true,beq_iff_eq,Bool.not_eq_true'] at h0;rcases h0 with ((h0|h0)|h0)|h0
  ·exact ax h0
  ·unfold xW at h0;rw [ha,hb] at h0;simp only [zW,ua,ub,Bool.and_true,bne_eq_false_iff_eq] at h0;exact lW h0
  ·rw [h1] at h0;cases h0
  ·rw [h2] at h0;cases h0
 ·rcases Nat.lt_or_ge j (ops.size-1) with g|g
  ·exact .inr (km j g).2
  ·rw [show j=ops.size-1 by omega];exact .inl Oy
 ·rw [show j=ops.size-1 by omega];exact nI i hi
 ·rw [show ops.size-(ops.size-1)=0+1 by omega];refine ⟨fun gZ=>?_,fun j hj=>?_⟩
  ·exfalso
   have:ops.size-1∈Region.ready .any ops listed:=mem_ready.2 ⟨by
    have mV:ops.size-1<listed.size:=by omega
    have:=sz (ops.size-1) (by omega)
    simpa [mV] using this,ops[ops.size-1],by simp,fun e he yA=>by
     have ay:=hc.elt (ops.size-1) (by omega) e.on (by
      simp only [qX,List.mem_map,List.mem_filter];refine ⟨e,⟨?_,yA⟩,rfl⟩;have hgd:ops.getD (ops.size-1) default=ops[ops.size-1]:=by simp [show ops.size-1<ops.size by omega]
      rw [hgd];simpa using he)
     rw [sz e.on (by omega)];simp [ay]⟩
   rw [gZ] at this;cases this
  ·obtain ⟨g1,o,g2,g3⟩:=mem_ready.1 hj;have iQ:j<ops.size:=(Array.getElem?_eq_some_iff.1 g2).1;have mV:j<listed.size:=by omega
   have uj:listed.getD j false=false:=by simpa [mV] using g1
   have ue:j=ops.size-1:=by
    rw [sz j iQ] at uj
    have: ¬j<ops.size-1:=by simpa using uj
    omega
   subst ue;have ho:ops.getD (ops.size-1) default=o:=by simp [g2]
   unfold wpOp;rw [g2];simp only;rw [ho] at B9;unfold yw4 at DW;have OC:ops.toList.drop (ops.size-1)=[o]:=by
    rw [List.drop_eq_getElem_cons (by simp;omega),List.drop_of_length_le (by simp;omega)]
    have:=(Array.getElem?_eq_some_iff.1 g2).2
    simpa using this
   rw [OC] at DW;simp only [awL,B9] at DW;rw [if_pos (by simp [Region.wanted,B9])];left;refine Oper.wp_mono ?_ (EF hs DW _);rintro a' w' ⟨ρ',fr',H',hq,aX⟩;exact ⟨SR (by simpa using jX) (fun i hi=>by
    by_cases e:i=ops.size-1
    ·subst e;simp [mV]
    ·rw [getD_set_ne false (Ne.symm e),sz i hi];simp;omega),ρ',fr',H',hq,aX⟩
theorem bd.intro {id:Nat} {fr:Fr} {H:Hp} {Q:Exit->Fr->Hp->Prop} (ex dl:List (List Nat)) (oE:(G8 ops ex dl&&(ex.length==ops.size)&&(dl.length==ops.size)&&Ux ops)=true) (hm:P.follows .mixedOrders=true)
  (h:awD P N ops (hnew H) 0 ops.toList ex dl fr H (Q .normal)):bd P N id ops fr H Q:=by
 rw [Bool.and_eq_true] at oE;refine bd.BE ex dl oE.1 hm (fun i j a b hi hj ax h1 h2 ha hb ua ub lW=>?_) h;exfalso;have h0:=List.all_eq_true.1 (List.all_eq_true.1 oE.2 j (by simpa using hj)) i (by simpa using hi);simp only [Bool.or_eq_true,beq_iff_eq,Bool.not_eq_true'] at h0;rcases h0 with ((h0|h0)|h0)|h0
 ·exact ax h0
 ·unfold xW at h0;rw [ha,hb] at h0;simp only [zW,ua,ub,Bool.and_true,bne_eq_false_iff_eq] at h0;exact lW h0
 ·rw [h1] at h0;cases h0
 ·rw [h2] at h0;cases h0
end
inductive Tr where
 |done
 |node (l:List (Nat×Tr))
def trD:List Nat->Tr
 |[]=> .done
 |i::r=> .node [(i,trD r)]
def trP:List Nat->Tr->Tr
 |[],t=>t
 |i::r,t=> .node [(i,trP r t)]
mutual
def chkT (ops:Array Oper) (listed:Array Bool):Nat->Tr->Bool
 |0, .done=>(Region.ready .any ops listed).isEmpty
 |f+1, .node l=> !(Region.ready .any ops listed).isEmpty&&(Region.ready .any ops listed==l.map (·.1))&&HN ops listed f l
 |_,_=>false
def HN (ops:Array Oper) (listed:Array Bool) (f:Nat):List (Nat×Tr)->Bool
 |[]=>true
 |(i,t)::r=>chkT ops (listed.setIfInBounds i true) f t&&HN ops listed f r
end
mutual
def awT (P:Program) (N:Nat) (ops:Array Oper):Tr->Fr->Hp->(Fr->Hp->Prop)->Prop
 | .done,fr,H,K=>K fr H
 | .node l,fr,H,K=>awTs P N ops l fr H K
def awTs (P:Program) (N:Nat) (ops:Array Oper):List (Nat×Tr)->Fr->Hp->(Fr->Hp->Prop)->Prop
 |[],_,_,_=>True
 |(i,t)::r,fr,H,K=>awL P N ops ((ops[i]?).toList) fr H (fun fr' H'=>awT P N ops t fr' H' K)/\awTs P N ops r fr H K
end
theorem Yl {P:Program} {N:Nat} {ops:Array Oper} {B:Nat} {w0:mR} {Mx:Nat->Prop} {w:World} {ρ:Nat->Addr} {fr:Fr} {H:Hp} {a:Act} {K:Fr->Hp->Prop} {i:Nat} {o:Oper} (hi:ops[i]?=some o) (hq:awL P N ops [o] fr H K) (hs:aC B w0 Mx N w ρ fr H a) (Q:Exit->Act->World->Prop) (K':Act->World->Prop) (hK: ∀a' w' ρ' fr' H',K fr' H'->aC B w0 Mx N w' ρ' fr' H' a'->K' a' w'):wpOp P ops Q i K' a w:=by
 unfold wpOp;rw [hi];simp only [awL] at hq⊢;have lR: ∀(a':Act) (w':World),(∃ρ' fr' H',K fr' H'/\aC B w0 Mx N w' ρ' fr' H' a')->K' a' w':=fun a' w' ⟨ρ',fr',H',h1,h2⟩=>hK a' w' ρ' fr' H' h1 h2
 split at hq
 ·rename_i hg
  have hw:Region.wanted o (yielded ops a.tmps)=true:=by simp [Region.wanted,hg]
  rw [if_pos hw];exact .inl (Oper.wp_mono lR (EF hs hq _))
 ·rename_i j b hg
  split at hq
  ·rename_i c hc
   have hy:=Jm hs hc;by_cases qA:c=b
   ·have hw:Region.wanted o (yielded ops a.tmps)=true:=by simp [Region.wanted,hg,hy,qA]
    rw [if_pos hw];exact .inl (Oper.wp_mono lR (EF (hs.gput (qA▸hc)) (hq.1 qA) _))
   ·have hw: ¬Region.wanted o (yielded ops a.tmps)=true:=by simp [Region.wanted,hg,hy,qA]
    rw [if_neg hw];have rI:c= !b:=by cases c<;>cases b<;>simp_all
    obtain ⟨hd,hq⟩:=hq.2 rI;exact hK _ _ ρ _ _ hq ((hs.gput (rI▸hc)).put hd (.tup [] [] rfl (fun i v x h=>by simp at h)))
  ·rename_i hc
   have hy:=Mo hs hc;have hw: ¬Region.wanted o (yielded ops a.tmps)=true:=by simp [Region.wanted,hg,hy]
   rw [if_neg hw];exact hK _ _ ρ _ _ hq.2 (hs.put hq.1 (.tup [] [] rfl (fun i v x h=>by simp at h)))
  ·exact hq.elim
theorem St {P:Program} {N:Nat} {ops:Array Oper} {fr:Fr} {H:Hp} {K:Fr->Hp->Prop}: ∀(l:List (Nat×Tr)),awTs P N ops l fr H K-> ∀q∈l,awL P N ops ((ops[q.1]?).toList) fr H (fun fr' H'=>awT P N ops q.2 fr' H' K)
 |[],_,q,hq=>by cases hq
 |(i,t)::r,h,q,hq=>by
  simp only [awTs] at h;rcases List.mem_cons.1 hq with e|e
  ·subst e;exact h.1
  ·exact St r h.2 q e
theorem SQ {ops:Array Oper} {listed:Array Bool} {f:Nat}: ∀(l:List (Nat×Tr)),HN ops listed f l=true-> ∀q∈l,chkT ops (listed.setIfInBounds q.1 true) f q.2=true
 |[],_,q,hq=>by cases hq
 |(i,t)::r,h,q,hq=>by
  simp only [HN,Bool.and_eq_true] at h;rcases List.mem_cons.1 hq with e|e
  ·subst e;exact h.1
  ·exact SQ r h.2 q e
theorem Xu {P:Program} {N:Nat} {ops:Array Oper} {B:Nat} {w0:mR} {Mx:Nat->Prop} {K:Fr->Hp->Prop} (Q:Exit->Act->World->Prop) (hQ: ∀a' w' ρ' fr' H',K fr' H'->aC B w0 Mx N w' ρ' fr' H' a'->Q .normal a' w'): ∀(f:Nat) (t:Tr) (listed:Array Bool) (w:World) (ρ:Nat->Addr) (fr:Fr) (H:Hp) (a:Act),chkT ops listed f t=true->awT P N ops t fr H K->aC B w0 Mx N w ρ fr H a->wpAny P .any ops Q f listed a w:=by
 intro f
 induction f with
 |zero=>
  intro t listed w ρ fr H a hc h hs;cases t with
  |done=>
   simp only [chkT,List.isEmpty_iff] at hc;simp only [awT] at h;exact ⟨hc,hQ _ _ ρ _ _ h hs⟩
  |node l=>simp [chkT] at hc
 |succ f ih=>
  intro t listed w ρ fr H a hc h hs;cases t with
  |done=>simp [chkT] at hc
  |node l=>
   simp only [chkT,Bool.and_eq_true,Bool.not_eq_true',beq_iff_eq] at hc;simp only [awT] at h;refine ⟨fun gZ=>by rw [gZ] at hc;simp at hc,fun i hi=>?_⟩;rw [hc.1.2] at hi;obtain ⟨q,hq,rfl⟩:=List.mem_map.1 hi;have h1:=St l h q hq;have h2:=SQ l hc.2 q hq;have hr:q.1∈Region.ready .any ops listed:=by rw [hc.1.2];exact List.mem_map_of_mem hq
   obtain ⟨_,o,g2,_⟩:=mem_ready.1 hr;rw [g2] at h1;exact Yl g2 h1 hs _ _ fun a' w' ρ' fr' H' hk aX=>ih q.2 _ w' ρ' fr' H' a' h2 hk aX
theorem bd.bY {P:Program} {N:Nat} {ops:Array Oper} {id:Nat} {fr:Fr} {H:Hp} {Q:Exit->Fr->Hp->Prop} (t:Tr) (oE:chkT ops (Array.replicate ops.size false) ops.size t=true) (hm:P.follows .mixedOrders=true)
  (h:awT P N ops t fr H (Q .normal)):bd P N id ops fr H Q:=
 ⟨fun _ _ _ _ ρ a hs=>wp_region_any hm (Xu _ (fun _ _ ρ' fr' H' hk aX=>⟨ρ',fr',H',hk,aX⟩) ops.size t _ _ ρ fr H a oE h hs.draw)⟩
section
variable {P:Program} {N:Nat} {ops:Array Oper} {fr fr':Fr} {H H':Hp} {K:Fr->Hp->Prop}
theorem yzf {t:Tr} (h1:fr=fr') (h2:H=H'):awT P N ops t fr H K=awT P N ops t fr' H' K:=by rw [h1,h2]
theorem yw6 {l:List (Nat×Tr)} (h1:fr=fr') (h2:H=H'):awTs P N ops l fr H K=awTs P N ops l fr' H' K:=by rw [h1,h2]
end
attribute [congr] yzf yw6
attribute [go_sem] trD trP awT awTs Option.toList_some
section
variable (P:Program) (N:Nat) (ops:Array Oper) (base j:Nat) (fr:Fr) (H:Hp) (K:Fr->Hp->Prop)
structure Uw (d:Option Nat) (Hd:Hp) (r:List Oper) (bC bE:List (List Nat)) (g:Nat) (xs:List AV):Prop where
 out:HO P g xs Hd (base+j) (fun x=>awD P N ops base (j+1) r bC bE (fput fr d x) H K) (fun x ob=>awD P N ops base (j+1) r bC bE (fput fr d x) ((base+j,ob)::H) K)
def kQ (o:Oper) (r:List Oper) (bC bE:List (List Nat)) (p:Prop) (x:AV):Prop:=p/\awD P N ops base (j+1) r bC bE (fput fr o.dst x) H K
def kR (o:Oper) (r:List Oper) (bC:List (List Nat)) (dl:List Nat) (bE:List (List Nat)) (p:Prop) (x:AV):Prop:=(yaw (dl.map (base+ ·)) H).all (fun q=>sO (yaw (dl.map (base+ ·)) H) q.2)=true/\p/\awD P N ops base (j+1) r bC bE (fput fr o.dst x) H K
def kA (o:Oper) (r:List Oper) (bC bE:List (List Nat)) (p:Prop) (q:AV×AObj):Prop:=p/\awD P N ops base (j+1) r bC bE (fput fr o.dst q.1) ((base+j,q.2)::H) K
def kS (o:Oper) (r:List Oper) (bC bE:List (List Nat)) (p:Prop) (q:Nat×AObj):Prop:=p/\awD P N ops base (j+1) r bC bE (fput fr o.dst .any) (hset H q.1 q.2) K
def kI (o:Oper) (r:List Oper) (bC bE:List (List Nat)) (p:Prop) (q:Nat×Int×Int):Prop:=p/\awD P N ops base (j+1) r bC bE (fput fr o.dst .any) (insE H q.1 q.2.1 q.2.2) K
def kP (o:Oper) (r:List Oper) (bC bE:List (List Nat)) (p:Prop) (q:AV×Option Nat×AObj):Prop:=p/\awD P N ops base (j+1) r bC bE (fput fr o.dst q.1) ((base+j,q.2.2)::hgo H q.2.1) K
def kC (o:Oper) (r:List Oper) (bC:List (List Nat)) (dl:List Nat) (bE:List (List Nat)) (xs:List AV) (g:Nat) (cap:List AV):Prop:=(yaw (dl.map (base+ ·)) H).all (fun q=>sO (yaw (dl.map (base+ ·)) H) q.2)=true/\Uw P N ops base j fr H K o.dst (yaw (dl.map (base+ ·)) H) r bC bE g (xs++cap)
def awDX (o:Oper) (r:List Oper) (ex:List Nat) (bC:List (List Nat)) (dl:List Nat) (bE:List (List Nat)):Prop:=match o.op with
 | .store t x y=>mO (stF P H t (evA (bW ex fr) x) (evA (bW ex fr) y)) (kS P N ops base j fr H K o r bC bE) False
 | .insert t m k v=>mO (inF P H t (evA (bW ex fr) m) (evA (bW ex fr) k) (evA (bW ex fr) v)) (kI P N ops base j fr H K o r bC bE) False
 | .call {callee:= .builtin .append,args:=args,argTypes:=ts}=>match args.toList,ts.toList with
   |[s,x],[t,t']=>t=t'/\mO (apG P (base+j) H t (evA (bW ex fr) s) (evA (bW ex fr) x)) (kP P N ops base j fr H K o r bC bE) False
   |_,_=>False
 | .call {callee:= .value f,args:=args, .. }=>mF (evA (pe (yaw (dl.map (base+ ·)) H) (bW ex fr)) f) (kC P N ops base j fr H K o r bC dl bE (args.toList.map (evA (pe (yaw (dl.map (base+ ·)) H) (bW ex fr)))))
 |_=>False
def awDn (o:Oper) (r:List Oper) (ex:List Nat) (bC:List (List Nat)) (dl:List Nat) (bE:List (List Nat)):Prop:=cvOk P o.op=true/\dok o.dst N=true/\if ycx o.op then mO (quF P H (evA (bW ex fr)) o.op) (kQ P N ops base j fr H K o r bC bE) False
    else mO (quF P (yaw (dl.map (base+ ·)) H) (evA (pe (yaw (dl.map (base+ ·)) H) (bW ex fr))) o.op) (kR P N ops base j fr H K o r bC dl bE)
     (mO (alF P (base+j) (evA (bW ex fr)) o.op) (kA P N ops base j fr H K o r bC bE) (awDX P N ops base j fr H K o r ex bC dl bE))
theorem Q6 (o:Oper) (r:List Oper) (ex:List Nat) (bC:List (List Nat)) (dl:List Nat) (bE:List (List Nat)):(awD.awDO P N base j o ex dl fr H fun fr' H'=>awD P N ops base (j+1) r bC bE fr' H' K)=awDn P N ops base j fr H K o r ex bC dl bE:=by
 unfold awD.awDO awDn awDX mO
 split
 ·rcases quF P H (evA (bW ex fr)) o.op with _|⟨p,r⟩<;>rfl
 ·rcases quF P (yaw (dl.map (base+ ·)) H) (evA (pe (yaw (dl.map (base+ ·)) H) (bW ex fr))) o.op with _|⟨p,r⟩
  ·rcases alF P (base+j) (evA (bW ex fr)) o.op with _|⟨p,r,ob⟩
   ·simp only;generalize o.op=op;cases op<;>try rfl
    case store t x y=>
     simp only;rcases stF P H t (evA (bW ex fr) x) (evA (bW ex fr) y) with _|⟨p,i,ob⟩<;>rfl
    case insert t m k v=>
     simp only;rcases inF P H t (evA (bW ex fr) m) (evA (bW ex fr) k) (evA (bW ex fr) v) with _|⟨p,i,n,x⟩<;>rfl
    case call c=>
     obtain ⟨callee,args,ts⟩:=c;cases callee<;>try rfl
     case builtin b=>
      cases b<;>try rfl
      generalize hl:args.toList=l1;generalize hm:ts.toList=l2;simp only [hl,hm]
      match l1,l2 with
      |[s,x],[t,t']=>
       simp only;rcases apG P (base+j) H t (evA (bW ex fr) s) (evA (bW ex fr) x) with _|⟨p,r,g,ob⟩<;>rfl
      |[],_=>rfl
      |[_],_=>rfl
      |_::_::_::_,_=>rfl
      |[_,_],[]=>rfl
      |[_,_],[_]=>rfl
      |[_,_],_::_::_::_=>rfl
     case value f=>
      simp only [mF,kC];cases evA (pe (yaw (dl.map (base+ ·)) H) (bW ex fr)) f<;>first|rfl|(simp only [eq_iff_iff];exact ⟨fun h=>⟨h.1,h.2.1,h.2.2.1,⟨h.2.2.2⟩⟩,fun h=>⟨h.1,h.2.1,h.2.2.1,h.2.2.2.out⟩⟩)
   ·rfl
  ·rfl
def nK (c b:Bool) (o:Oper) (r:List Oper) (ex:List Nat) (bC:List (List Nat)) (dl:List Nat) (bE:List (List Nat)):Prop:=(c=b->awDn P N ops base j fr H K o r ex bC dl bE)/\(c= !b->dok o.dst N=true/\awD P N ops base (j+1) r bC bE (fput fr o.dst (.tup [])) H K)
section
variable (o:Oper) (r:List Oper) (ex:List Nat) (bC:List (List Nat)) (dl:List Nat) (bE:List (List Nat))
theorem y66:nK P N ops base j fr H K true true o r ex bC dl bE=awDn P N ops base j fr H K o r ex bC dl bE:=by simp [nK]
theorem y67:nK P N ops base j fr H K false false o r ex bC dl bE=awDn P N ops base j fr H K o r ex bC dl bE:=by simp [nK]
theorem y68:nK P N ops base j fr H K true false o r ex bC dl bE=(dok o.dst N=true/\awD P N ops base (j+1) r bC bE (fput fr o.dst (.tup [])) H K):=by simp [nK]
theorem y69:nK P N ops base j fr H K false true o r ex bC dl bE=(dok o.dst N=true/\awD P N ops base (j+1) r bC bE (fput fr o.dst (.tup [])) H K):=by simp [nK]
end
def kG (b:Bool) (o:Oper) (r:List Oper) (ex:List Nat) (bC:List (List Nat)) (dl:List Nat) (bE:List (List Nat)) (c:Bool):Prop:=nK P N ops base j fr H K c b o r ex bC dl bE
def kZ (o:Oper) (r:List Oper) (bC bE:List (List Nat)) (_:Unit):Prop:=dok o.dst N=true/\awD P N ops base (j+1) r bC bE (fput fr o.dst (.tup [])) H K
theorem kZ_eq (o:Oper) (r:List Oper) (bC bE:List (List Nat)) (u:Unit):kZ P N ops base j fr H K o r bC bE u=(dok o.dst N=true/\awD P N ops base (j+1) r bC bE (fput fr o.dst (.tup [])) H K):=rfl
def awDg (o:Oper) (r:List Oper) (ex:List Nat) (bC:List (List Nat)) (dl:List Nat) (bE:List (List Nat)):Prop:=match o.guard with
 |none=>awDn P N ops base j fr H K o r ex bC dl bE
 |some (g,b)=>mG (gval ops (bW ex fr) g) (kG P N ops base j fr H K b o r ex bC dl bE) (kZ P N ops base j fr H K o r bC bE)
theorem kQ_eq (o:Oper) (r:List Oper) (bC bE:List (List Nat)) (p:Prop) (x:AV):kQ P N ops base j fr H K o r bC bE p x=(p/\awD P N ops base (j+1) r bC bE (fput fr o.dst x) H K):=rfl
theorem kR_eq (o:Oper) (r:List Oper) (bC:List (List Nat)) (dl:List Nat) (bE:List (List Nat)) (p:Prop) (x:AV):kR P N ops base j fr H K o r bC dl bE p x=((yaw (dl.map (base+ ·)) H).all (fun q=>sO (yaw (dl.map (base+ ·)) H) q.2)=true/\p/\awD P N ops base (j+1) r bC bE (fput fr o.dst x) H K):=rfl
theorem kA_eq (o:Oper) (r:List Oper) (bC bE:List (List Nat)) (p:Prop) (x:AV) (y:AObj):kA P N ops base j fr H K o r bC bE p (x,y)=(p/\awD P N ops base (j+1) r bC bE (fput fr o.dst x) ((base+j,y)::H) K):=rfl
theorem kS_eq (o:Oper) (r:List Oper) (bC bE:List (List Nat)) (p:Prop) (x:Nat) (y:AObj):kS P N ops base j fr H K o r bC bE p (x,y)=(p/\awD P N ops base (j+1) r bC bE (fput fr o.dst .any) (hset H x y) K):=rfl
theorem kI_eq (o:Oper) (r:List Oper) (bC bE:List (List Nat)) (p:Prop) x y z:kI P N ops base j fr H K o r bC bE p (x,y,z)=(p/\awD P N ops base (j+1) r bC bE (fput fr o.dst .any) (insE H x y z) K):=rfl
theorem kP_eq (o:Oper) (r:List Oper) (bC bE:List (List Nat)) (p:Prop) x y z:kP P N ops base j fr H K o r bC bE p (x,y,z)=(p/\awD P N ops base (j+1) r bC bE (fput fr o.dst x) ((base+j,z)::hgo H y) K):=rfl
theorem kC_eq (o:Oper) (r:List Oper) (bC:List (List Nat)) (dl:List Nat) (bE:List (List Nat)) (xs:List AV) (g:Nat) (cap:List AV):kC P N ops base j fr H K o r bC dl bE xs g cap=((yaw (dl.map (base+ ·)) H).all (fun q=>sO (yaw (dl.map (base+ ·)) H) q.2)=true/\Uw P N ops base j fr H K o.dst (yaw (dl.map (base+ ·)) H) r bC bE g (xs++cap)):=rfl
theorem kG_eq (b:Bool) (o:Oper) (r:List Oper) (ex:List Nat) (bC:List (List Nat)) (dl:List Nat) (bE:List (List Nat)) (c:Bool):kG P N ops base j fr H K b o r ex bC dl bE c=(nK P N ops base j fr H K c b o r ex bC dl bE):=rfl
theorem y7a (e d:List (List Nat)):awD P N ops base j [] e d fr H K=K fr H:=by simp only [awD]
theorem y3z (o:Oper) (r:List Oper) (ex:List Nat) (bC:List (List Nat)) (dl:List Nat) (bE:List (List Nat)):awD P N ops base j (o::r) (ex::bC) (dl::bE) fr H K=awDg P N ops base j fr H K o r ex bC dl bE:=by
 unfold awDg mG kG nK kZ;simp only [awD];rcases o.guard with _|⟨g,b⟩
 ·exact Q6 P N ops base j fr H K o r ex bC dl bE
 ·simp only;rcases gval ops (bW ex fr) g with _|_|_|_|_|(_|_)|_|_|_|_|_|_|_<;>first|rfl|(simp only [sC,Q6])
end
theorem ag {P:Program} {N:Nat} {ops:Array Oper} {base j:Nat} {fr:Fr} {H:Hp} {K:Fr->Hp->Prop} {c b:Bool} {o:Oper} {r:List Oper} {ex:List Nat} {bC:List (List Nat)} {dl:List Nat} {bE:List (List Nat)} (h1:c=b->awDn P N ops base j fr H K o r ex bC dl bE) (h2:c= !b->dok o.dst N=true/\awD P N ops base (j+1) r bC bE (fput fr o.dst (.tup [])) H K):nK P N ops base j fr H K c b o r ex bC dl bE:=⟨h1,h2⟩
section
variable {P:Program} {N base j:Nat} {fr fr':Fr} {H H':Hp}
theorem yzg {ops:Array Oper} {r:List Oper} {e d:List (List Nat)} {j':Nat} {K:Fr->Hp->Prop} (h0:j=j') (h1:fr=fr') (h2:H=H'):awD P N ops base j r e d fr H K=awD P N ops base j' r e d fr' H' K:=by rw [h0,h1,h2]
end
def scV (H:Hp) (x:AV):AV:=if s3 H x then x else .any
def Pa (b:Bool) (x:AV):AV:=if b then .any else x
theorem y7b (H:Hp) (fr:Fr) (t:Nat):fget (pe H fr) t=scV H (fget fr t):=by
 induction fr with
 |nil=>rfl
 |cons p r ih=>
  obtain ⟨s,x⟩:=p;simp only [pe,fget];by_cases h:s=t
  ·simp [h,scV]
  ·simp only [h,if_false];exact ih
theorem y7c (ex:List Nat) (fr:Fr) (t:Nat):fget (bW ex fr) t=Pa (ex.contains t) (fget fr t):=by rw [LW];rfl
theorem erV_t (x:AV):Pa true x= .any:=rfl
theorem erV_f (x:AV):Pa false x=x:=rfl
attribute [congr] yzg
attribute [go_sem] kZ_eq kQ_eq kR_eq kA_eq kS_eq kI_eq kP_eq kC_eq kG_eq sepF sep2 sepV bne_self_eq_false inF inK inO insE insO yev awDX awDn y66 y67 y68 y69 awDg y7a y3z
attribute [go_sem] yw4 y7b y7c erV_t erV_f scV apG apG.n2E hgo yaw ycx loud List.contains_cons List.contains_nil beq_self_eq_true
attribute [go_sem] AObj.cells.injEq Cs.ints.injEq Cs.bools.injEq Cs.lst.injEq AV.int.injEq AV.sl.injEq AV.ro.injEq AV.ptr.injEq AV.agg.injEq AV.tup.injEq AV.str.injEq AV.rp.injEq AV.fn.injEq Prod.mk.injEq List.cons.injEq Int.natCast_add Int.natCast_one Int.natCast_zero Int.natCast_mul Nat.succ_eq_add_one List.length_append List.length_drop List.length_take
structure ca (x y:AV):Prop where
 out: ∀(w:World) (M:Nat->Prop) (ρ:Nat->Addr) (D:Nat->Prop) (v:Value),VR w M ρ D v x->VR w M ρ D v y
theorem ca.refl (x:AV):ca x x:=⟨fun _ _ _ _ _ h=>h⟩
theorem ca.of {x y:AV} (h:x=y):ca x y:=h▸ca.refl x
theorem ca.nils {es:Nat} {c:Cs} (he:0<es) (hc:c.len=0):ca .nils (.ro es 0 c):=⟨fun w M ρ D v h=>by
 have e:=h.bX;subst e;exact .ro es 0 c none 0 (fun _=>undef) (by simp [hc]) (Nat.le_refl _) he (fun h=>by omega) (fun j hj=>by omega)⟩
theorem ca.agg {xs ys:List AV} (hl:xs.length=ys.length) (h: ∀(i:Nat) (x y:AV),xs[i]?=some x->ys[i]?=some y->ca x y):ca (.agg xs) (.agg ys):=⟨fun w M ρ D v hv=>by
 obtain ⟨vs,rfl,ox,hx⟩:=hv.bg;refine .agg vs ys (ox.trans hl) fun i v y hi hy=>?_;have ay:i<xs.length:=by
  have:=List.getElem?_eq_some_iff.1 hi;obtain ⟨h1,_⟩:=this;omega
 exact (h i xs[i] y (List.getElem?_eq_getElem ay) hy).out w M ρ D v (hx i v _ hi (List.getElem?_eq_getElem ay))⟩
theorem ca.tup {xs ys:List AV} (hl:xs.length=ys.length) (h: ∀(i:Nat) (x y:AV),xs[i]?=some x->ys[i]?=some y->ca x y):ca (.tup xs) (.tup ys):=⟨fun w M ρ D v hv=>by
 obtain ⟨vs,rfl,ox,hx⟩:=hv.iI;refine .tup vs ys (ox.trans hl) fun i v y hi hy=>?_;have ay:i<xs.length:=by
  have:=List.getElem?_eq_some_iff.1 hi;obtain ⟨h1,_⟩:=this;omega
 exact (h i xs[i] y (List.getElem?_eq_getElem ay) hy).out w M ρ D v (hx i v _ hi (List.getElem?_eq_getElem ay))⟩
inductive yG:List AV->List AV->Prop where
 |nil:yG [] []
 |cons {x y:AV} {xs ys:List AV}:ca x y->yG xs ys->yG (x::xs) (y::ys)
theorem yG.len {xs ys:List AV} (h:yG xs ys):xs.length=ys.length:=by
 induction h with
 |nil=>rfl
 |cons _ _ ih=>simp [ih]
theorem yG.get {xs ys:List AV} (h:yG xs ys): ∀(i:Nat) (x y:AV),xs[i]?=some x->ys[i]?=some y->ca x y:=by
 induction h with
 |nil=>intro i x y h;cases h
 |cons h1 _ ih=>
  intro i x y hx hy;cases i with
  |zero=>simp only [List.getElem?_cons_zero,Option.some.injEq] at hx hy;subst hx hy;exact h1
  |succ i=>exact ih i x y (by simpa using hx) (by simpa using hy)
theorem ca.Cy {xs ys:List AV} (h:yG xs ys):ca (.agg xs) (.agg ys):= .agg h.len h.get
theorem ca.E5 {xs ys:List AV} (h:yG xs ys):ca (.tup xs) (.tup ys):= .tup h.len h.get
section
variable {P:Program} {f:Nat} {args:List AV} {r r':AV}
def retL (P:Program) (rs:List ResultVar) (r:AV) (e:Exit) (fr:Fr) (H:Hp):Prop:=
 (e= .ret\/e= .normal)/\match resL P fr H rs with
 |some (p,l)=>p/\dZ H 6 (yf3 l)/\ca (snap H 6 (yf3 l)) r
 |none=>False
theorem Fn.aH {fn:Func} {c:Code} (rs:List ResultVar) (hf:P.funcs[f]?=some fn) (hb:fn.body=some c) (BS:fn.results.toList=rs) (hn:(fn.name== "runtime.NumGoroutine")=false) (hl:args.length<=fn.ntmps/\fn.ntmps<=1000000)
  (h:pJ P fn.ntmps c (frOf 0 args) [] (retL P rs r)):Fn P f args r:=by
 subst BS;refine ⟨⟨fn,hf,by rw [hb];rfl,hn⟩,fun w Mx vs rM vG hv=>?_⟩
 have wF:aC w.heap.size ⟨w,fun _=>undef⟩ Mx 0 w ρ0 [] [] {tmps:= #[],defers:=[]}:=
  ⟨Below.refl _ _,Nat.le_refl _,rM.2,(fun id o h=>by cases h),(fun id o h=>by cases h),(fun id o _ _ h=>by cases h),fun t=> .any _,⟨rfl,fun _ hb=>rM.1.later hb⟩,by simp,by omega⟩
 have OT:MM Mx [] ρ0=Mx:=by
  funext x;apply propext;constructor
  ·rintro (g|⟨id,o,g,_⟩)
   ·exact g
   ·cases g
  ·exact Or.inl
 have OH:qb P f args [] [] (fun r' _ H'=>dZ H' 6 r'/\ca (snap H' 6 r') r):=by
  refine ⟨.inl ⟨fn,c,hf,hb,hn,hl,?_⟩⟩;rw [show frOf 0 args++lft []=frOf 0 args by simp [lft]];refine h.mono fun e fr H hq=>⟨hq.1,?_⟩;have ot:=hq.2;revert ot;cases resL P fr H fn.results.toList with
  |none=>exact fun h=>h
  |some q=>exact fun h=>h
 obtain ⟨_,eX⟩:=Js (P:=P) wF OH vG (fun i v x g1 g2=>by rw [OT];exact (hv i v x g1 g2).D0);refine eX.mono ?_;rintro e w' ⟨v,r',ρ',fr',H',rfl,⟨hp,hle⟩,hs,BK⟩;exact ⟨v,rfl,hs.below,hle.out _ _ _ _ v (Iw hs (My:=Mx) (ρ0:=ρ0) (fun _ h=>h) 6 v r' BK hp)⟩
end
attribute [go_sem] retL
end Go.Proofs.YtjpbeacamoijhaaGreatDoor
