/- The author's own program logic: statements that draw their order; results told less exactly. -/
import Derived.Test.YtphjphpmfflfpaaGreatDoorGb
set_option linter.unusedSimpArgs false
set_option linter.unusedVariables false
namespace Go.Proofs.YtphjphpmfflfpaaGreatDoor
open Go Go.RowKit
section
variable {P:Program} {B:Nat} {w0:ja} {Mx:Nat->Prop} {N:Nat} {w:World} {ρ:Nat->Addr} {fr:Fr} {H:Hp} {a:Act}
theorem aK.Ek (h:aK B w0 Mx N w ρ fr H a) {aM:Nat} (hn:hget H aM=none) {w1:ja} {w':World} {ρ':Nat->Addr} {N0:Nat} {a0:Act} {M0:Nat->Prop} {t:Nat} {l:List Int} (mj:w1.w=w) (k:aK w.heap.size w1 M0 N0 w' ρ' [] [(0, .cells t (.ints l))] a0):
  aK B w0 Mx N w' (dt ρ aM (ρ' 0)) fr ((aM, .cells t (.ints l))::H) a/\ ∀v es n,VR w' (MM M0 [(0, .cells t (.ints l))] ρ') ρ' (DD [(0, .cells t (.ints l))]) v (.sl es 0 0 n)->VR w' (MM Mx ((aM, .cells t (.ints l))::H) (dt ρ aM (ρ' 0))) (dt ρ aM (ρ' 0)) (DD ((aM, .cells t (.ints l))::H)) v (.sl es aM 0 n):=by
 have dI:=k.below;rw [mj] at dI;have At:w.heap.size<=(ρ' 0).block:=(k.own 0 _ rfl rfl).1;have e0:dt ρ aM (ρ' 0) aM=ρ' 0:=by simp [dt]
 have e1: ∀i,i≠aM->dt ρ aM (ρ' 0) i=ρ i:=fun i hi=>by simp [dt,hi]
 have cs: ∀i o,hget ((aM, .cells t (.ints l))::H) i=some o->(i=aM/\o= .cells t (.ints l))\/(i≠aM/\hget H i=some o):=fun i o ho=>by
  simp only [hget] at ho;by_cases e:aM=i
  ·rw [if_pos e] at ho;exact .inl ⟨e.symm,(Option.some.inj ho).symm⟩
  ·rw [if_neg e] at ho;exact .inr ⟨fun e'=>e e'.symm,ho⟩
 have aG: ∀i o,hget H i=some o->i≠aM:=fun i o ho e=>by rw [e,hn] at ho;cases ho
 have gL: ∀i o,hget H i=some o->hget ((aM, .cells t (.ints l))::H) i=some o:=fun i o ho=>by
  simp only [hget];rw [if_neg (fun e=>aG i o ho e.symm)];exact ho
 have hMo: ∀x,x<w.heap.size->MM Mx ((aM, .cells t (.ints l))::H) (dt ρ aM (ρ' 0)) x->MM Mx H ρ x:=fun x hx hm=>by
  rcases hm with g|⟨i,o,g1,g2,g3⟩
  ·exact .inl g
  ·rcases cs i o g1 with ⟨rfl,rfl⟩|⟨q1,q2⟩
   ·rw [e0] at g3;omega
   ·rw [e1 i q1] at g3;exact .inr ⟨i,o,q2,g2,g3⟩
 have hold: ∀{v:Value} {x:AV},VR w (MM Mx H ρ) ρ (DD H) v x->VR w' (MM Mx ((aM, .cells t (.ints l))::H) (dt ρ aM (ρ' 0))) (dt ρ aM (ρ' 0)) (DD ((aM, .cells t (.ints l))::H)) v x:=fun hv=>by
  refine hv.carry dI.size (fun x hx hm=>⟨dI.block x hx,fun g=>hm (hMo x hx g)⟩) (fun i hd=>?_);obtain ⟨o,ho⟩:=hd;exact ⟨⟨o,gL i o ho⟩,e1 i (aG i o ho),fun arr t ha=>⟨arr,(dI.block _ (fG ha)).trans ha,rfl⟩⟩
 have oI:=k.objs 0 _ rfl;obtain ⟨f1,arr,f2,f3,f4⟩:=oI;refine ⟨⟨h.below.trans (dI.mono h.hB),Nat.le_trans h.hB dI.size,fun x hx=>Nat.lt_of_lt_of_le (h.mx x hx) dI.size,fun i o g1 g2=>?_,fun i o g1=>?_,fun i o i' o' g1 g2 g3 g4 g5=>?_,fun t=>hold (h.frv t),h.defers,h.size⟩,fun v es n hv=>?_⟩
 ·rcases cs i o g1 with ⟨rfl,rfl⟩|⟨q1,q2⟩
  ·rw [e0];exact ⟨Nat.le_trans h.hB At,fun hx=>by have:=h.mx _ hx;omega⟩
  ·rw [e1 i q1];exact h.own i o q2 g2
 ·rcases cs i o g1 with ⟨rfl,rfl⟩|⟨q1,q2⟩
  ·exact ⟨by rw [e0];exact f1,arr,by rw [e0];exact f2,by rw [e0];exact f3,fun j hj=>let ⟨u,hu,hx⟩:=f4 j hj;⟨u,by rw [e0];exact hu,by obtain rfl:=VR.av (show VR _ _ _ _ u (I (l.getD j 0)) from hx);exact .int _ _⟩⟩
  ·have hr:=h.objs i o q2;cases o with
   |gone=>trivial
   |cells t c=>
    obtain ⟨f1,arr,f2,f3,f4⟩:=hr;exact ⟨by rw [e1 i q1];exact f1,arr,by rw [e1 i q1];exact (dI.block _ (fG f2)).trans f2,by rw [e1 i q1];exact f3,fun j hj=>let ⟨u,hu,hx⟩:=f4 j hj;⟨u,by rw [e1 i q1];exact hu,hold hx⟩⟩
   |gmap t ck l=>
    obtain ⟨es,k1,k2,k3⟩:=hr;exact ⟨es,by rw [e1 i q1];exact (dI.block _ (fG k1)).trans k1,k2,fun j e q he hl=>let ⟨g1,g2,g3⟩:=k3 j e q he hl;⟨g1,g2,hold g3⟩⟩
   |iter mid s sn la=>
    obtain ⟨k1,k2,k3⟩:=hr;obtain ⟨om,rN⟩:=k1;exact ⟨⟨om,gL mid om rN⟩,by rw [e1 i q1];exact k2,by rw [e1 i q1,e1 mid (aG mid om rN)];exact (dI.block _ (fG k3)).trans k3⟩
   |imap t l=>
    obtain ⟨k0,es,ck,k1,k2,k3⟩:=hr;exact ⟨k0,es,ck,by rw [e1 i q1];exact (dI.block _ (fG k1)).trans k1,k2,fun j e k x he hl=>let ⟨g1,g2,g3⟩:=k3 j e k x he hl;⟨g1,hold g2,g3⟩⟩
   |fmap t c=>
    obtain ⟨k0,es,ck,k1,k2⟩:=hr;exact ⟨k0,es,ck,by rw [e1 i q1];exact (dI.block _ (fG k1)).trans k1,k2⟩
 ·have fresh: ∀i o,hget H i=some o->o.live=true->(ρ i).block<w.heap.size:=fun i o g1 g2=>by
   exact h.km _ (.inr ⟨i,o,g1,g2,rfl⟩)
  rcases cs i o g1 with ⟨rfl,rfl⟩|⟨q1,q2⟩
  ·rcases cs i' o' g3 with ⟨rfl,rfl⟩|⟨r1,r2⟩
   ·rfl
   ·rw [e0,e1 i' r1] at g5;have:=fresh i' o' r2 g4;omega
  ·rcases cs i' o' g3 with ⟨rfl,rfl⟩|⟨r1,r2⟩
   ·rw [e0,e1 i q1] at g5;have:=fresh i o q2 g2;omega
   ·rw [e1 i q1,e1 i' r1] at g5;exact h.inj i o i' o' q2 g2 r2 g4 g5
 ·cases hv with
  |sl _ _ _ _ cap hd hc arr t2 ad ha hb hr=>
   refine .sl es aM 0 n cap ⟨.cells t (.ints l),by simp [hget]⟩ hc arr t2 ad ?_ ?_ ?_
   ·rw [e0];exact ha
   ·rw [e0];exact hb
   ·rw [e0];exact hr
theorem Yr (h:aK B w0 Mx N w ρ fr H a) {f:Nat} {xs:List AV} {aM:Nat} {K:AV->AObj->Prop} (hc:OR P f xs H aM K) {vs:List Value} (hl:vs.length=xs.length)
  (hv: ∀(i:Nat) (v:Value) (x:AV),vs[i]?=some v->xs[i]?=some x->VR w (MM Mx H ρ) ρ (DD H) v x):
  ns P f/\Calls P f vs.toArray w fun e w'=> ∃v es n t l ρ' M0,e= .returned v/\K (.sl es aM 0 n) (.cells t (.ints l))/\aK w.heap.size ⟨w,fun _=>undef⟩ M0 0 w' ρ' [] [(0, .cells t (.ints l))] {tmps:= #[],defers:=[]}/\VR w' (MM M0 [(0, .cells t (.ints l))] ρ') ρ' (DD [(0, .cells t (.ints l))]) v (.sl es 0 0 n):=by
 obtain ⟨es,n,t,l,jh,hk⟩:=hc;rcases jh with ⟨hp,cZ,hfn⟩|⟨hs,cZ,hfn⟩
 ·refine ⟨cZ,(hfn w (MM Mx H ρ) vs ⟨h.qi,h.km⟩ hl fun i v x h1 h2=>(hv i v x h1 h2).mg (List.all_eq_true.1 hp _ (List.mem_of_getElem? h2))).mono ?_⟩;rintro e w' ⟨v,ρ',rfl,aZ,hr⟩;exact ⟨v,es,n,t,l,ρ',_,rfl,hk,aZ,hr⟩
 ·have rI: ∀(i:Nat) (v:Value) (x:AV),vs[i]?=some v->(xs.map (snap H 6))[i]?=some x->VR w (fun _=>False) ρ0 (fun _=>False) v x:=fun i v x h1 h2=>by
   simp only [List.getElem?_map] at h2;obtain ⟨x',g1,rfl⟩:=Option.map_eq_some_iff.1 h2;exact G9 h (fun _ h=>h.elim) 6 v x' (hv i v x' h1 g1) (hs _ (List.mem_of_getElem? g1))
  refine ⟨cZ,(hfn w (fun _=>False) vs ⟨h.qi,fun _ h=>h.elim⟩ (by simpa using hl) rI).mono ?_⟩;rintro e w' ⟨v,ρ',rfl,aZ,hr⟩;exact ⟨v,es,n,t,l,ρ',_,rfl,hk,aZ,hr⟩
end
theorem SG {ops:Array Oper} {es:Nat->Ent}: ∀(d j:Nat) (fr:Fr),nY ops es j fr (d+1)=fput (nY ops es j fr d) (fL ops (j+d)) (es (j+d)).val
 |0,j,fr=>rfl
 |d+1,j,fr=>by
  have:=SG (ops:=ops) (es:=es) d (j+1) (fput fr (fL ops j) (es j).val)
  simp only [nY] at this⊢;rw [this,show j+1+d=j+(d+1) by omega]
theorem RB {base:Nat} {es:Nat->Ent}: ∀(d j:Nat) (H:Hp),hI base es j H (d+1)=(es (j+d)).eff (base+(j+d)) (hI base es j H d)
 |0,j,H=>rfl
 |d+1,j,H=>by
  have:=RB (base:=base) (es:=es) d (j+1) ((es j).eff (base+j) H)
  simp only [hI] at this⊢;rw [this,show j+1+d=j+(d+1) by omega]
theorem C8 {ops:Array Oper} {es:Nat->Ent} (fr:Fr): ∀k,nY ops es 0 fr k=frS ops es fr (fun _=>true) k
 |0=>rfl
 |k+1=>by rw [SG,C8 fr k];simp [frS]
theorem CI {base:Nat} {es:Nat->Ent} (H:Hp): ∀k,hI base es 0 H k=hS base es H (fun _=>true) k
 |0=>rfl
 |k+1=>by rw [RB,CI H k];simp [hS]
def Bp (ops:Array Oper) (E:Nat->Bool):Prop:= ∀j,E j=true-> ∀i∈oV (ops.getD j default),E i=true
theorem Rp {ops:Array Oper}: ∀(l:List Oper) (gJ:List (List Nat)),l=ops.toList.drop gJ.length->(∀k i,i∈gJ.getD k []-> ∀E,Bp ops E->(∀e∈oV (ops.getD k default),E e=true)->E i=true)->
  ∀k i,i∈(ancs l gJ).getD k []-> ∀E,Bp ops E->(∀e∈oV (ops.getD k default),E e=true)->E i=true
 |[],gJ,_,h=>h
 |o::l,gJ,hl,h=>by
  simp only [ancs];have aG:gJ.length<ops.size:=by
   have:=congrArg List.length hl;simp at this;omega
  have ho:o=ops.getD gJ.length default:=by
   have:=congrArg (fun x=>x[0]?) hl
   simp [aG] at this;simpa [aG] using this
  refine Rp l _ ?_ ?_
  ·have:=congrArg List.tail hl
   simp only [List.tail_cons,List.tail_drop] at this;rw [this];simp
  ·intro k i hi E hE hk;by_cases gp:k<gJ.length
   ·have e:(gJ++[((oV o).flatMap fun i=>i::gJ.getD i []).eraseDups]).getD k []=gJ.getD k []:=by
     simp [List.getElem?_append_left gp]
    rw [e] at hi;exact h k i hi E hE hk
   ·by_cases hkk:k=gJ.length
    ·subst hkk;have e:(gJ++[((oV o).flatMap fun i=>i::gJ.getD i []).eraseDups]).getD gJ.length []=((oV o).flatMap fun i=>i::gJ.getD i []).eraseDups:=by simp
     rw [e,List.mem_eraseDups,List.mem_flatMap] at hi;obtain ⟨x,hx,Ch⟩:=hi;rw [ho] at hx;have X0:=hk x hx;rcases List.mem_cons.1 Ch with rfl|Ch
     ·exact X0
     ·exact h x i Ch E hE (hE x X0)
    ·have e:(gJ++[((oV o).flatMap fun i=>i::gJ.getD i []).eraseDups]).getD k []=[]:=by
      rw [List.getD_eq_getElem?_getD,List.getElem?_eq_none (by simp;omega)];rfl
     rw [e] at hi;cases hi
theorem JB {ops:Array Oper} {E:Nat->Bool} (hE:Bp ops E) {k i:Nat} (hi:((iZ ops).getD k []).contains i=true) (hk: ∀e∈oV (ops.getD k default),E e=true):E i=true:=
 Rp ops.toList [] (by simp) (fun k i h=>by simp at h) k i (List.contains_iff_mem.1 hi) E hE hk
structure QY (ops:Array Oper) (ex dl:List (List Nat)):Prop where
 slot: ∀i j,i<ops.size->j<ops.size->i≠j->((iZ ops).getD j []).contains i=true\/((iZ ops).getD i []).contains j=true\/ ∀d,fL ops i=some d->(ex.getD j []).contains d=true
 new: ∀i j,i<ops.size->j<ops.size->i<j->((iZ ops).getD j []).contains i=true\/(dl.getD j []).contains i=true
 lo: ∀i j,i<ops.size->j<ops.size->i≠j->ydi (ops.getD i default).op=false->loud (ops.getD i default).op=false->loud (ops.getD j default).op=true->((iZ ops).getD j []).contains i=true
 lolo: ∀i j,i<ops.size->j<ops.size->i≠j->loud (ops.getD i default).op=true->loud (ops.getD j default).op=true->((iZ ops).getD j []).contains i=true\/((iZ ops).getD i []).contains j=true\/(yfl (ops.getD i default).op=true/\yfl (ops.getD j default).op=true)\/uG ops (ops.getD i default).op (ops.getD j default).op=true
 ins: ∀i j,i<ops.size->j<ops.size->i≠j->yfl (ops.getD i default).op=true->loud (ops.getD j default).op=true->yfl (ops.getD j default).op=true
 same: ∀i j,i<ops.size->j<ops.size->i≠j-> ∀d,fL ops i=some d->fL ops j=some d->((iZ ops).getD j []).contains i=true\/((iZ ops).getD i []).contains j=true
 lt: ∀i j,i<ops.size->j<ops.size->((iZ ops).getD j []).contains i=true->i<j
 elt: ∀j,j<ops.size-> ∀e∈oV (ops.getD j default),e<j
theorem VK {ops:Array Oper} {ex dl:List (List Nat)} (h:FM ops ex dl=true):QY ops ex dl:=by
 have h0: ∀i j,i<ops.size->j<ops.size->_:=fun i j hi hj=>List.all_eq_true.1 (List.all_eq_true.1 h j (by simpa using hj)) i (by simpa using hi);simp only [Bool.and_eq_true,Bool.or_eq_true,beq_iff_eq,Bool.not_eq_true',decide_eq_true_eq,decide_eq_false_iff_not,bne_iff_ne,FM.before0,List.all_eq_true] at h0
 refine ⟨fun i j hi hj az=>?_,fun i j hi hj aG=>?_,fun i j hi hj az h1 h2 h3=>?_,fun i j hi hj az h1 h2=>?_,fun i j hi hj az h1 h2=>?_,fun i j hi hj az d h1 h2=>?_,fun i j hi hj h1=>?_,fun j hj e he=>?_⟩
 ·have:=h0 i j hi hj
  rcases this.1.1 with g|g
  ·exact absurd g az
  ·rcases g.1.1.1.1.1 with (g1|g1)|g1
   ·exact .inl g1
   ·exact .inr (.inl g1)
   ·refine .inr (.inr fun d hd=>?_);unfold fL at hd;rw [hd] at g1;exact g1
 ·have:=h0 i j hi hj
  rcases this.1.1 with g|g
  ·omega
  ·rcases g.1.1.1.1.2 with (g1|g1)|g1
   ·exact .inl g1
   ·omega
   ·exact .inr g1
 ·have:=h0 i j hi hj
  rcases this.1.1 with g|g
  ·exact absurd g az
  ·rcases g.1.1.1.2 with ((g1|g1)|g1)|g1
   ·rw [h1] at g1;cases g1
   ·rw [h3] at g1;cases g1
   ·exact g1
   ·rw [h2] at g1;cases g1
 ·have:=h0 i j hi hj
  rcases this.1.1 with g|g
  ·exact absurd g az
  ·rcases g.1.1.2 with ((((g1|g1)|g1)|g1)|g1)|g1
   ·rw [h1] at g1;cases g1
   ·rw [h2] at g1;cases g1
   ·exact .inl g1
   ·exact .inr (.inl g1)
   ·exact .inr (.inr (.inl g1))
   ·exact .inr (.inr (.inr g1))
 ·have:=h0 i j hi hj
  rcases this.1.1 with g|g
  ·exact absurd g az
  ·rcases g.1.2 with (g1|g1)|g1
   ·rw [h1] at g1;cases g1
   ·rw [h2] at g1;cases g1
   ·exact g1
 ·have:=h0 i j hi hj
  unfold fL at h1 h2;rcases this.1.1 with g|g
  ·exact absurd g az
  ·rcases g.2 with ((g1|g1)|g1)|g1
   ·exact .inl g1
   ·exact .inr g1
   ·rw [h1,h2] at g1;exact absurd rfl g1
   ·rw [h1] at g1;cases g1
 ·have:=h0 i j hi hj
  rcases this.1.2 with g|g
  ·rw [h1] at g;cases g
  ·exact g
 ·exact (h0 j j hj hj).2 e he
def cntE (E:Nat->Bool):Nat->Nat
 |0=>0
 |k+1=>cntE E k+if E k then 1 else 0
theorem Ro (E:Nat->Bool): ∀k,cntE E k<=k
 |0=>Nat.le_refl _
 |k+1=>by have:=Ro E k;simp only [cntE];split<;>omega
theorem SF {E:Nat->Bool}: ∀k,cntE E k=k-> ∀i,i<k->E i=true
 |0,_,i,hi=>by omega
 |k+1,h,i,hi=>by
  have hk:=Ro E k;simp only [cntE] at h;by_cases hE:E k=true
  ·rw [if_pos hE] at h;by_cases e:i=k
   ·rw [e];exact hE
   ·exact SF k (by omega) i (by omega)
  ·rw [if_neg hE] at h;omega
theorem SE {E E':Nat->Bool} {j:Nat} (h0:E j=false) (h1:E' j=true) (h: ∀i,i≠j->E' i=E i): ∀k,cntE E' k=cntE E k+if j<k then 1 else 0
 |0=>by simp [cntE]
 |k+1=>by
  have ih:=SE h0 h1 h k;simp only [cntE,ih];by_cases e:k=j
  ·subst e;simp [h0,h1]
  ·rw [h k e];generalize (if E k=true then 1 else 0)=z;by_cases qa:j<k
   ·rw [if_pos qa,if_pos (show j<k+1 by omega)];omega
   ·rw [if_neg qa,if_neg (show¬j<k+1 by omega)];omega
theorem xD (n k:Nat):(Array.replicate n false).getD k false=false:=by by_cases hk:k<n<;>simp [hk]
section
variable {P:Program} {B:Nat} {w0:ja} {Mx:Nat->Prop} {N:Nat} {ops:Array Oper} {base:Nat} {ex dl:List (List Nat)} {es:Nat->Ent} {fr0:Fr} {H0:Hp}
theorem Oa {E E':Nat->Bool} {j n:Nat} (hj:j<n) (h1:E' j=true) (h: ∀i,i≠j->E' i=E i) (iP: ∀i,j<i->i<n->E i=true-> ∀d,fL ops i=some d->fL ops j≠some d) (t:Nat):
  fget (frS ops es fr0 E' n) t=fget (fput (frS ops es fr0 E n) (fL ops j) (es j).val) t:=by
 by_cases hd:fL ops j=some t
 ·have e2:fget (fput (frS ops es fr0 E n) (fL ops j) (es j).val) t=(es j).val:=by rw [hd];simp [fput,fget]
  rw [e2]
  have: ∀k,j<k->k<=n->fget (frS ops es fr0 E' k) t=(es j).val:=by
   intro k
   induction k with
   |zero=>intro h;omega
   |succ k ih=>
    intro hk wJ;simp only [frS];by_cases e:k=j
    ·subst e;rw [if_pos h1,hd];simp [fput,fget]
    ·have O9:=ih (by omega) (by omega)
     split
     ·rename_i hE
      rw [h k e] at hE;have az:=iP k (by omega) (by omega) hE;cases vt:fL ops k with
      |none=>exact O9
      |some d=>
       have:d≠t:=fun e'=>az d vt (by rw [hd,e'])
       simp only [fput,fget,this,if_false];exact O9
     ·exact O9
  exact this n hj (Nat.le_refl _)
 ·have e2:fget (fput (frS ops es fr0 E n) (fL ops j) (es j).val) t=fget (frS ops es fr0 E n) t:=by
   cases hk:fL ops j with
   |none=>rfl
   |some d=>simp only [fput,fget];rw [if_neg (fun e=>hd (by rw [hk,e]))]
  rw [e2];exact HG n fun i _ hi=>h i (fun e=>hd (by rw [←e];exact hi))
theorem Rn {H:Hp} {t:Nat} {m k v:AV} {p:Prop} {id:Nat} {n x:Int} (h:inF P H t m k v=some (p,id,n,x)) (hp:p):
  ∃kt et,tk P t= .map kt et/\tk P kt= .int .i64/\m= .mp id/\k= .int .i64 n/\v= .int .i64 x/\ ∃t' g,hget H id=some (.fmap t' (.ints g))/\g n=none:=by
 unfold inF at h
 split at h
 ·rename_i kt et dH
  unfold inK at h
  split at h
  ·rename_i gp
   unfold inO at h
   split at h
   ·rename_i t' g hg
    cases h;exact ⟨kt,et,dH,gp,rfl,rfl,rfl,t',g,hg,hp⟩
   ·cases h
  ·cases h
 ·cases h
def kdO:Option AObj->Option Nat
 |some (.fmap t (.ints _))=>some t
 |_=>none
def vj (H:Hp) (id:Nat):Option Nat:=kdO (hget H id)
def I3 (n:Int):Option AObj->Option Int
 |some (.fmap _ (.ints g))=>g n
 |_=>none
def AM (H:Hp) (id:Nat) (n:Int):Option Int:=I3 n (hget H id)
theorem ZI {H:Hp} {id t:Nat} (h:vj H id=some t): ∃g,hget H id=some (.fmap t (.ints g)):=by
 unfold vj kdO at h
 split at h
 ·rename_i t' g hg;cases h;exact ⟨g,hg⟩
 ·cases h
theorem vV (H:Hp) (bX:Nat) (n' x':Int) (i:Nat):hget (insE H bX n' x') i=if i=bX then (match hget H i with|some (.fmap t (.ints g))=>some (.fmap t (.ints (updI g n' x')))|q=>q) else hget H i:=by
 unfold insE insO;by_cases e:i=bX
 ·subst e;rw [if_pos rfl]
  split
  ·rename_i t g hg;rw [vb hg,hg]
  ·rename_i cD
   split
   ·rename_i t g hg;exact absurd hg (cD t g)
   ·rfl
 ·rw [if_neg e]
  split
  ·rw [jB (Ne.symm e)]
  ·rfl
theorem Km (H:Hp) (bX:Nat) (n' x':Int) (id:Nat):vj (insE H bX n' x') id=vj H id:=by
 unfold vj;rw [vV]
 split
 ·split
  ·rename_i t g hg;rw [hg];rfl
  ·rfl
 ·rfl
theorem ZH {H:Hp} {id t:Nat} {g:Int->Option Int} {n x:Int} (h:hget H id=some (.fmap t (.ints g))):AM (insE H id n x) id n=some x:=by
 unfold AM;rw [vV,if_pos rfl,h];simp [I3,updI]
theorem N9 {H:Hp} {id bX:Nat} {n n' x':Int} (h:(AM H id n).isSome=true):(AM (insE H bX n' x') id n).isSome=true:=by
 unfold AM at h⊢;rw [vV]
 split
 ·split
  ·rename_i t g hg
   rw [hg] at h;simp only [I3,updI] at h⊢
   split
   ·rfl
   ·exact h
  ·exact h
 ·exact h
theorem y3z {H1 H2:Hp} {id bX:Nat} {n n' x x':Int} (h: ∀i,hget H1 i=hget (insE H2 id n x) i) (hd:bX≠id\/n'≠n) (i:Nat):hget (insE H1 bX n' x') i=hget (insE (insE H2 bX n' x') id n x) i:=by
 rw [vV H1,vV (insE H2 bX n' x'),vV H2 bX n' x',h i,vV H2];by_cases e1:i=id
 ·by_cases e2:i=bX
  ·have hn:n'≠n:=by rcases hd with g|g<;>first|exact g|(exfalso;exact g (by omega))
   simp only [if_pos e1,if_pos e2];cases hq:hget H2 i with
   |none=>rfl
   |some ob=>
    cases ob with
    |fmap t c=>
     cases c with
     |ints g=>
      have:updI (updI g n x) n' x'=updI (updI g n' x') n x:=by
       funext q;simp only [updI];by_cases q1:q=n'
       ·have q2:q≠n:=fun e=>hn (q1.symm.trans e);rw [if_pos q1,if_neg q2,if_pos q1]
       ·rw [if_neg q1];by_cases q2:q=n
        ·rw [if_pos q2,if_pos q2]
        ·rw [if_neg q2,if_neg q2,if_neg q1]
      simp only [this]
     |bools g=>rfl
     |pairs g=>rfl
    |_=>rfl
  ·simp only [if_pos e1,if_neg e2]
 ·by_cases e2:i=bX
  ·simp only [if_neg e1,if_pos e2]
  ·simp only [if_neg e1,if_neg e2]
theorem xC (H:Hp) (id:Nat) (ob:AObj) (i:Nat):hget (hset H id ob) i=if id=i then (hget H i).map (fun _=>ob) else hget H i:=by
 by_cases e:id=i
 ·subst e;rw [if_pos rfl]
  induction H with
  |nil=>rfl
  |cons q r ih=>
   obtain ⟨k,o⟩:=q;simp only [hset,hget];by_cases e:k=id
   ·simp [e,hget]
   ·simp only [e,if_false,hget];exact ih
 ·rw [if_neg e,jB e]
theorem y30 (e:Ent) (aM:Nat) {H1 H2:Hp} {id:Nat} (h:hget H1 id=hget H2 id):hget (e.eff aM H1) id=hget (e.eff aM H2) id:=by
 cases e with
 |skip=>exact h
 |quiet r=>exact h
 |alloc r ob=>simp only [Ent.eff,hget];rw [h]
 |store i ob=>simp only [Ent.eff];rw [xC,xC,h]
 |app r g ob=>
  simp only [Ent.eff,hget]
  split
  ·rfl
  ·cases g with
   |none=>exact h
   |some i=>simp only [hgo];rw [xC,xC,h]
 |ins i n x=>simp only [Ent.eff];rw [vV,vV,h]
theorem N8 {ops:Array Oper} {es:Nat->Ent} {fr0:Fr} {d:Nat} (h:tg ops d=true) {E:Nat->Bool}: ∀k,k<=ops.size->fget (frS ops es fr0 E k) d=fget fr0 d:=by
 intro k
 induction k with
 |zero=>intro _;rfl
 |succ k ih=>
  intro hk;have db:=ih (by omega);simp only [frS]
  split
  ·have az:fL ops k≠some d:=by
    unfold tg at h
    have:=List.all_eq_true.1 h (ops.getD k default) (by
     have:ops.getD k default=ops[k]'(by omega):=by simp [show k<ops.size by omega]
     rw [this];simp)
    simpa [fL] using this
   cases hd:fL ops k with
   |none=>simp only [fput];exact db
   |some q=>
    simp only [fput,fget];rw [if_neg (fun e=>az (by rw [hd,e]))];exact db
  ·exact db
theorem Rm {ops:Array Oper} {es:Nat->Ent} {fr0:Fr} {i t a id:Nat} {x y:Operand} {z:AV} {p:Prop} {ob:AObj} {H:Hp} {l:List Nat} {op:Op} (ho:op= .store t x y) (ha:stP op=some a) (hu:tg ops a=true) (bH:stF P H t (evA (cr l (frS ops es fr0 (fun _=>true) i)) x) z=some (p,id,ob)) (hi:i<=ops.size:=by omega): ∃off,fget fr0 a= .ptr id off:=by
 subst ho;cases x with
 |tmp d=>
  simp only [stP,Option.some.injEq] at ha;subst ha;simp only [evA] at bH
  split at bH
  ·rw [Le] at bH
   split at bH
   ·simp [stF] at bH
   ·rw [N8 hu i hi] at bH;unfold stF at bH
    split at bH
    ·rename_i bX off hq
     split at bH
     ·split at bH
      ·split at bH
       ·cases bH;exact ⟨off,hq⟩
       ·cases bH
      ·cases bH
     ·cases bH
    ·cases bH
  ·simp [stF] at bH
 |_=>simp [stP] at ha
theorem y31 {H1 H2:Hp} {t:Nat} {x y:AV} {p:Prop} {id:Nat} {ob:AObj} (h:stF P H2 t x y=some (p,id,ob)) (e:hget H1 id=hget H2 id):stF P H1 t x y=stF P H2 t x y:=by
 unfold stF at h⊢;cases x with
 |ptr i off=>
  simp only at h⊢
  have:i=id:=by
   split at h
   ·split at h
    ·split at h
     ·cases h;rfl
     ·cases h
    ·cases h
   ·cases h
  subst this;rw [e]
 |_=>rfl
theorem y32 (hc:QY ops ex dl) (tE: ∀i j a b,i<ops.size->j<ops.size->i≠j->((iZ ops).getD j []).contains i=false->((iZ ops).getD i []).contains j=false->stP (ops.getD i default).op=some a->stP (ops.getD j default).op=some b->tg ops a=true->tg ops b=true->a≠b->sep2 fr0 a b=true) (hb: ∀i,base<=i->hget H0 i=none) (gU: ∀j,j<ops.size->es j= .skip\/uF P ops base ex dl j (ops.getD j default) (frS ops es fr0 (fun _=>true) j) (hS base es H0 (fun _=>true) j) (es j))
  {E:Nat->Bool} (hE:Bp ops E) (hEn: ∀i,E i=true->i<ops.size) {j:Nat} (hj:j<ops.size) (ka:dok (fL ops j) N=true) (gV:uF P ops base ex dl j (ops.getD j default) (frS ops es fr0 (fun _=>true) j) (hS base es H0 (fun _=>true) j) (es j)) (qZ:E j=false) (hr: ∀e∈oV (ops.getD j default),E e=true) {w:World} {ρ:Nat->Addr} {a:Act}
  (hs:aK B w0 Mx N w ρ (frS ops es fr0 E ops.size) (hS base es H0 E ops.size) a) {E':Nat->Bool} (h1:E' j=true) (h2: ∀i,i≠j->E' i=E i) (Q:Exit->Act->World->Prop) (K:Act->World->Prop)
  (hK: ∀a' w' ρ',aK B w0 Mx N w' ρ' (frS ops es fr0 E' ops.size) (hS base es H0 E' ops.size) a'->K a' w'):wpOp P ops Q j K a w:=by
 have hoj:ops[j]?=some (ops.getD j default):=by simp [hj]
 have gB:(ops.getD j default).dst=fL ops j:=rfl;generalize iX:ops.getD j default=o at*;have jP: ∀i,((iZ ops).getD j []).contains i=true->E i=true:=fun i hi=>JB hE hi (by rw [iX];exact hr);have kK: ∀i,((iZ ops).getD i []).contains j=true->E i=false:=fun i hi=>by
  cases nX:E i with
  |false=>rfl
  |true=>have:=JB hE hi (hE i nX);rw [qZ] at this;cases this
 have iP: ∀i,j<i->i<ops.size->E i=true-> ∀d,fL ops i=some d->fL ops j≠some d:=fun i hji oL nX d CA Ap=>by
  rcases hc.same i j oL hj (by omega) d CA Ap with g|g
  ·have:=hc.lt i j oL hj g;omega
  ·rw [kK i g] at nX;cases nX
 have dA:=Oa (es:=es) (fr0:=fr0) hj h1 h2 iP;have P5: ∀t,fget (cr (cF ex j) (frS ops es fr0 (fun _=>true) j)) t= .any\/fget (cr (cF ex j) (frS ops es fr0 (fun _=>true) j)) t=fget (frS ops es fr0 E ops.size) t:=fun t=>by
  rw [Le];by_cases hx:(cF ex j).contains t=true
  ·rw [if_pos hx];exact .inl rfl
  ·rw [if_neg hx];right;rw [←VL (ops:=ops) (es:=es) (fr0:=fr0) (j:=j) (E:=fun i=>decide (i<j)) (fun _=>rfl) ops.size (by omega)];refine HG ops.size fun i hi hd=>?_;by_cases e:i=j
   ·subst e;simp [qZ]
   ·rcases hc.slot i j hi hj e with g|g|g
    ·have:=hc.lt i j hi hj g;simp [this,jP i g]
    ·have:=hc.lt j i hj hi g;simp [show¬i<j by omega,kK i g]
    ·exact absurd (g t hd) hx
 have gm:=hs.xN P5;have oz:y4 ops o (cr (cF ex j) (frS ops es fr0 (fun _=>true) j))->Region.wanted o (yielded ops a.tmps)=true:=fun hw=>by
  rcases hw with hg|⟨g,b,hg,hv⟩
  ·simp [Region.wanted,hg]
  ·simp [Region.wanted,hg,HS gm hv]
 unfold wpOp;rw [hoj];simp only;have ym:ydi o.op=false->loud o.op=false->(∀i,E i=true->(es i).rG=false)/\ ∀i,i<j->(es i).rG=false:=fun iL hl=>by
  have key: ∀i,i<ops.size->(es i).rG=true->((iZ ops).getD i []).contains j=true/\i≠j:=fun i hi he=>by
   have cP:=gU i hi;have pf:loud (ops.getD i default).op=true:=by
    cases hk:es i with
    |store id ob=>replace cP:=cP.resolve_left (by rw [hk];intro h;cases h);rw [hk] at cP;exact cP.2.2.1
    |app r g ob=>replace cP:=cP.resolve_left (by rw [hk];intro h;cases h);rw [hk] at cP;exact cP.2.2.1
    |ins id n x=>replace cP:=cP.resolve_left (by rw [hk];intro h;cases h);rw [hk] at cP;exact cP.2.2.1
    |_=>rw [hk] at he;cases he
   have az:i≠j:=fun e=>by subst e;rw [iX,hl] at pf;cases pf
   exact ⟨hc.lo j i hj hi (Ne.symm az) (by rw [iX];exact iL) (by rw [iX];exact hl) pf,az⟩
  refine ⟨fun i nX=>?_,fun i eK=>?_⟩
  ·cases he:(es i).rG with
   |false=>rfl
   |true=>have:=kK i (key i (hEn i nX) he).1;rw [nX] at this;cases this
  ·cases he:(es i).rG with
   |false=>rfl
   |true=>have:=hc.lt j i hj (by omega) (key i (by omega) he).1;omega
 have EV:loud o.op=true->yfl o.op=false->stP o.op=none->hS base es H0 E ops.size=hS base es H0 (fun _=>true) j/\hS base es H0 E' ops.size=(es j).eff (base+j) (hS base es H0 (fun _=>true) j):=fun hl yn Cp=>by
  have key: ∀i,i<ops.size->i≠j->(∀H,(es i).eff (base+i) H=H)\/(E i=true/\i<j)\/(E i=false/\j<i):=fun i hi e=>by
   have cP:=gU i hi;cases hk:es i with
   |skip=>left;intro H;rfl
   |quiet r=>left;intro H;rfl
   |alloc r oq=>
    replace cP:=cP.resolve_left (by rw [hk];intro h;cases h);rw [hk] at cP
    have:=hc.lo i j hi hj e cP.2.1 cP.2.2.1 (by rw [iX];exact hl)
    exact .inr (.inl ⟨jP i this,hc.lt i j hi hj this⟩)
   |store bX oq=>
    replace cP:=cP.resolve_left (by rw [hk];intro h;cases h);rw [hk] at cP;rcases hc.lolo i j hi hj e cP.2.2.1 (by rw [iX];exact hl) with g|g|g|g
    ·exact .inr (.inl ⟨jP i g,hc.lt i j hi hj g⟩)
    ·exact .inr (.inr ⟨kK i g,hc.lt j i hj hi g⟩)
    ·rw [iX,yn] at g;cases g.2
    ·unfold uG at g;rw [iX,Cp] at g;unfold xj at g
     split at g
     ·rename_i h';cases h'
     ·cases g
   |app r g' oq=>
    replace cP:=cP.resolve_left (by rw [hk];intro h;cases h);rw [hk] at cP;rcases hc.lolo i j hi hj e cP.2.2.1 (by rw [iX];exact hl) with g|g|g|g
    ·exact .inr (.inl ⟨jP i g,hc.lt i j hi hj g⟩)
    ·exact .inr (.inr ⟨kK i g,hc.lt j i hj hi g⟩)
    ·rw [iX,yn] at g;cases g.2
    ·unfold uG at g;rw [iX,Cp] at g;unfold xj at g
     split at g
     ·rename_i h';cases h'
     ·cases g
   |ins bX n' x'=>
    replace cP:=cP.resolve_left (by rw [hk];intro h;cases h);rw [hk] at cP;rcases hc.lolo i j hi hj e cP.2.2.1 (by rw [iX];exact hl) with g|g|g|g
    ·exact .inr (.inl ⟨jP i g,hc.lt i j hi hj g⟩)
    ·exact .inr (.inr ⟨kK i g,hc.lt j i hj hi g⟩)
    ·rw [iX,yn] at g;cases g.2
    ·unfold uG at g;rw [iX,Cp] at g;unfold xj at g
     split at g
     ·rename_i h';cases h'
     ·cases g
  refine ⟨?_,?_⟩
  ·rw [←OP (base:=base) (es:=es) (H0:=H0) (j:=j) (E:=fun i=>decide (i<j)) (fun _=>rfl) ops.size (by omega)];refine BL ops.size fun i hi=>?_;by_cases e:i=j
   ·subst e;right;simp [qZ]
   ·rcases key i hi e with g|⟨g1,g2⟩|⟨g1,g2⟩
    ·exact .inl g
    ·right;simp [g1,g2]
    ·right;simp [g1,show¬i<j by omega]
  ·have e1:hS base es H0 (fun _=>true) (j+1)=(es j).eff (base+j) (hS base es H0 (fun _=>true) j):=by simp [hS]
   rw [←e1,←OP (base:=base) (es:=es) (H0:=H0) (j:=j+1) (E:=fun i=>decide (i<j+1)) (fun _=>rfl) ops.size (by omega)];refine BL ops.size fun i hi=>?_;by_cases e:i=j
   ·subst e;right;simp [h1]
   ·rw [h2 i e];rcases key i hi e with g|⟨g1,g2⟩|⟨g1,g2⟩
    ·exact .inl g
    ·right;simp [g1,show i<j+1 by omega]
    ·right;simp [g1,show¬i<j+1 by omega]
 cases iz:es j with
 |skip=>
  rw [iz] at gV;obtain ⟨g,b,hg,hv⟩:=gV;have hw: ¬Region.wanted o (yielded ops a.tmps)=true:=by
   rcases hv with hv|hv
   ·have hy:=HS gm hv;simp [Region.wanted,hg,hy]
   ·have hy:=LC gm hv;simp [Region.wanted,hg,hy]
  rw [if_neg hw];refine hK _ _ ρ ((hs.put (d:=o.dst) (by rw [gB];exact ka) (.tup [] [] rfl (fun i v x h=>by simp at h))).congr (fun t=>by rw [dA t,gB,iz];rfl) (fun i=>?_));rw [BL (E:=E') (E':=E) ops.size fun i _=>by
   by_cases e:i=j
   ·left;subst e;intro H;rw [iz];rfl
   ·right;exact h2 i e]
 |quiet r=>
  rw [iz] at gV;obtain ⟨hw,qd,hq⟩:=gV;have wR: ∀s d x,o.op= .convert s d x-> ∃e,P.underlying s=some e:=fun s d x ho=>by
   rw [ho] at qd;simp only [cvOk] at qd;cases hu:P.underlying s with
   |some e=>exact ⟨e,rfl⟩
   |none=>simp [tk,hu] at qd
  have hHE:hS base es H0 E' ops.size=hS base es H0 E ops.size:=BL ops.size fun i _=>by
   by_cases e:i=j
   ·left;subst e;intro H;rw [iz];rfl
   ·right;exact h2 i e
  have ng: ∀(w':World) (v:Value),aK B w0 Mx N w' ρ (frS ops es fr0 E ops.size) (hS base es H0 E ops.size) a->VR w' (MM Mx (hS base es H0 E ops.size) ρ) ρ (DD (hS base es H0 E ops.size)) v r->K (a.put o.dst v) w':=fun w' v aZ hv=>
   hK _ _ ρ ((aZ.put (d:=o.dst) (by rw [gB];exact ka) hv).congr (fun t=>by rw [dA t,gB,iz];rfl) (fun i=>by rw [hHE]))
  rw [if_pos (oz hw)];left;rcases hq with ⟨iL,p,qL,hp⟩|⟨iL,hl,EE,hq⟩
  ·rw [y1x (H':=hS base es H0 E ops.size) iL] at qL;obtain ⟨v,aQ,hv⟩:=HI (P:=P) gm.objs gm.ev wR qL hp;unfold Oper.wp;rw [aQ];exact ng w v hs hv
  ·obtain ⟨Ce,O6⟩:=ym iL hl;have cX: ∀i ob,hget (yas (dJ base dl j) (hS base es H0 (fun _=>true) j)) i=some ob->hget (hS base es H0 E ops.size) i=some ob:=fun i ob hi=>by
    rw [TO] at hi
    split at hi
    ·cases hi
    ·rename_i hnd
     rw [xi hb j (fun i hi _=>O6 i hi)] at hi;rw [xi hb ops.size (fun i _ nX=>Ce i nX)]
     split at hi
     ·rename_i hcnd
      have oL:E (i-base)=true:=by
       rcases hc.new (i-base) j (by omega) hj hcnd.2.1 with g|g
       ·exact jP _ g
       ·exfalso;apply hnd;rw [List.contains_iff_mem];exact List.mem_map.2 ⟨i-base,List.contains_iff_mem.1 g,by omega⟩
      rw [if_pos ⟨hcnd.1,by omega,oL,hcnd.2.2.2⟩];exact hi
     ·rename_i hcnd
      by_cases hib:base<=i
      ·rw [hb i hib] at hi;cases hi
      ·rw [if_neg (fun h=>hib h.1)];exact hi
   obtain ⟨My,IP,wC⟩:=hs.sub cX (fun i ob hi=>List.all_eq_true.1 EE _ (K3 hi)) (fr':=ll (yas (dJ base dl j) (hS base es H0 (fun _=>true) j)) (cr (cF ex j) (frS ops es fr0 (fun _=>true) j))) (fun t=>by
    rcases SU (yas (dJ base dl j) (hS base es H0 (fun _=>true) j)) (cr (cF ex j) (frS ops es fr0 (fun _=>true) j)) t with g|⟨g1,g2⟩
    ·exact .inl g
    ·rcases P5 t with g3|g3
     ·left;rw [g1,g3]
     ·exact .inr ⟨by rw [g1,g3],g2⟩)
   have sS: ∀i,DD (yas (dJ base dl j) (hS base es H0 (fun _=>true) j)) i->DD (hS base es H0 E ops.size) i:=fun i ⟨q,hq⟩=>⟨q,cX i q hq⟩
   have gL: ∀{w':World} {v:Value},VR w' (MM My (yas (dJ base dl j) (hS base es H0 (fun _=>true) j)) ρ) ρ (DD (yas (dJ base dl j) (hS base es H0 (fun _=>true) j))) v r->VR w' (MM Mx (hS base es H0 E ops.size) ρ) ρ (DD (hS base es H0 E ops.size)) v r:=fun hv=>by
    rw [IP] at hv;exact hv.carry (Nat.le_refl _) (fun b _ hm=>⟨rfl,hm⟩) (fun k hd=>⟨sS k hd,rfl,fun arr t ha=>⟨arr,ha,rfl⟩⟩)
   rcases hq with ⟨p,qL,hp⟩|⟨f,args,ts,g,cap,ho,hf,kN⟩
   ·obtain ⟨v,aQ,hv⟩:=HI (P:=P) wC.objs wC.ev wR qL hp;unfold Oper.wp;rw [aQ];exact ng w v hs (gL hv)
   ·obtain ⟨vs,ef,vk,hx⟩:=(hf▸wC.ev f).dT;obtain ⟨cZ,dQ⟩:=T4 (P:=P) wC kN (vs:=args.toList.map a.eval++vs) (by simp [vk]) (fun i v x g1 g2=>by
     by_cases hi:i<args.toList.length
     ·rw [List.getElem?_append_left (by simpa using hi),List.getElem?_map] at g1 g2;rw [List.getElem?_eq_getElem hi] at g1 g2;cases g1;cases g2;exact wC.ev _
     ·rw [List.getElem?_append_right (by simpa using hi)] at g1 g2;simp only [List.length_map] at g1 g2;exact hx _ v x g1 g2)
    have e1:(args.map a.eval++vs.toArray)=(args.toList.map a.eval++vs).toArray:=by obtain ⟨l⟩:=args;simp
    have aQ:(execOp a.eval o).run P w= .ok (.enter g (args.toList.map a.eval++vs).toArray) w:=by
     simp only [execOp,ho,resolve,ef];have h3:(#[]++Array.map a.eval args++vs.toArray)=(args.toList.map a.eval++vs).toArray:=by rw [Array.empty_append];exact e1
     simp only [Deferred.ofValue,invoke,Sem.run_bind,Sem.run_pure,Result.andThen_ok,h3];exact LM cZ _
    unfold Oper.wp;rw [aQ];refine dQ.mono ?_;rintro e w' ⟨v,r',rfl,rfl,_,hv,hbl⟩;exact ng w' v (hs.later hbl) (gL hv)
 |alloc r ob=>
  rw [iz] at gV;obtain ⟨hw,iL,hl,jh⟩:=gV;obtain ⟨Ce,O6⟩:=ym iL hl;have kz:hget (hS base es H0 E ops.size) (base+j)=none:=by
   rw [xi hb ops.size (fun i _ nX=>Ce i nX),if_neg (fun h=>by rw [Nat.add_sub_cancel_left,qZ] at h;cases h.2.2.1)];exact hb _ (by omega)
  have ng: ∀(w':World) (v:Value) (ρ2:Nat->Addr),aK B w0 Mx N w' ρ2 (frS ops es fr0 E ops.size) ((base+j,ob)::hS base es H0 E ops.size) a->VR w' (MM Mx ((base+j,ob)::hS base es H0 E ops.size) ρ2) ρ2 (DD ((base+j,ob)::hS base es H0 E ops.size)) v r->K (a.put o.dst v) w':=fun w' v ρ2 iW hv=>by
   refine hK _ _ _ ((iW.put (d:=o.dst) (by rw [gB];exact ka) hv).congr (fun t=>by rw [dA t,gB,iz];rfl) (fun i=>?_));rw [xi hb ops.size (fun i _ nX=>by
    by_cases e:i=j
    ·subst e;rw [iz];rfl
    ·rw [h2 i e] at nX;exact Ce i nX)]
   simp only [hget];rw [xi hb ops.size (fun i _ nX=>Ce i nX)];by_cases e:base+j=i
   ·subst e;rw [if_pos ⟨by omega,by omega,by rw [Nat.add_sub_cancel_left];exact h1,by rw [Nat.add_sub_cancel_left,iz];rfl⟩,if_pos rfl,Nat.add_sub_cancel_left,iz];rfl
   ·rw [if_neg e];by_cases hib:base<=i
    ·have:i-base≠j:=by omega
     rw [h2 _ this]
    ·rw [if_neg (fun h=>hib h.1),if_neg (fun h=>hib h.1)]
  rw [if_pos (oz hw)];left;rcases jh with ⟨p,cY,hp⟩|⟨EE,f,args,ts,g,cap,ho,hf,kN⟩
  ·obtain ⟨v,w',aQ,aZ,hv,pB,At⟩:=TD (P:=P) gm kz cY hp;unfold Oper.wp;rw [aQ];exact ng _ _ _ (aZ.tp (fr':=frS ops es fr0 E ops.size) (fun t=>by subst At;exact VR.laid hs kz (hs.frv t))) hv
  ·skip
   have cX: ∀i ob,hget (yas (dJ base dl j) (hS base es H0 (fun _=>true) j)) i=some ob->hget (hS base es H0 E ops.size) i=some ob:=fun i ob hi=>by
    rw [TO] at hi
    split at hi
    ·cases hi
    ·rename_i hnd
     rw [xi hb j (fun i hi _=>O6 i hi)] at hi;rw [xi hb ops.size (fun i _ nX=>Ce i nX)]
     split at hi
     ·rename_i hcnd
      have oL:E (i-base)=true:=by
       rcases hc.new (i-base) j (by omega) hj hcnd.2.1 with g|g
       ·exact jP _ g
       ·exfalso;apply hnd;rw [List.contains_iff_mem];exact List.mem_map.2 ⟨i-base,List.contains_iff_mem.1 g,by omega⟩
      rw [if_pos ⟨hcnd.1,by omega,oL,hcnd.2.2.2⟩];exact hi
     ·rename_i hcnd
      by_cases hib:base<=i
      ·rw [hb i hib] at hi;cases hi
      ·rw [if_neg (fun h=>hib h.1)];exact hi
   obtain ⟨My,IP,wC⟩:=hs.sub cX (fun i ob hi=>List.all_eq_true.1 EE _ (K3 hi)) (fr':=ll (yas (dJ base dl j) (hS base es H0 (fun _=>true) j)) (cr (cF ex j) (frS ops es fr0 (fun _=>true) j))) (fun t=>by
    rcases SU (yas (dJ base dl j) (hS base es H0 (fun _=>true) j)) (cr (cF ex j) (frS ops es fr0 (fun _=>true) j)) t with g|⟨g1,g2⟩
    ·exact .inl g
    ·rcases P5 t with g3|g3
     ·left;rw [g1,g3]
     ·exact .inr ⟨by rw [g1,g3],g2⟩)
   have sS: ∀i,DD (yas (dJ base dl j) (hS base es H0 (fun _=>true) j)) i->DD (hS base es H0 E ops.size) i:=fun i ⟨q,hq⟩=>⟨q,cX i q hq⟩;obtain ⟨vs,ef,vk,hx⟩:=(hf▸wC.ev f).dT;obtain ⟨cZ,dQ⟩:=Yr (P:=P) wC kN (vs:=args.toList.map a.eval++vs) (by simp [vk]) (fun i v x g1 g2=>by
    by_cases hi:i<args.toList.length
    ·rw [List.getElem?_append_left (by simpa using hi),List.getElem?_map] at g1 g2;rw [List.getElem?_eq_getElem hi] at g1 g2;cases g1;cases g2;exact wC.ev _
    ·rw [List.getElem?_append_right (by simpa using hi)] at g1 g2;simp only [List.length_map] at g1 g2;exact hx _ v x g1 g2)
   have e1:(args.map a.eval++vs.toArray)=(args.toList.map a.eval++vs).toArray:=by obtain ⟨l⟩:=args;simp
   have aQ:(execOp a.eval o).run P w= .ok (.enter g (args.toList.map a.eval++vs).toArray) w:=by
    simp only [execOp,ho,resolve,ef];have h3:(#[]++Array.map a.eval args++vs.toArray)=(args.toList.map a.eval++vs).toArray:=by rw [Array.empty_append];exact e1
    simp only [Deferred.ofValue,invoke,Sem.run_bind,Sem.run_pure,Result.andThen_ok,h3];exact LM cZ _
   unfold Oper.wp;rw [aQ];refine dQ.mono ?_;rintro e w' ⟨v,dV,n,t,l,ρ',M0,rfl,⟨rfl,rfl⟩,hk,hv⟩;obtain ⟨j1,j2⟩:=hs.Ek kz rfl hk;exact ng _ _ _ j1 (j2 _ _ _ hv)
 |store id ob=>
  rw [iz] at gV;obtain ⟨hw,iL,hl,t,x,y,p,ho,bH,hp⟩:=gV;have yn:yfl o.op=false:=by rw [ho];rfl
  have kinds: ∀i,i<ops.size->i≠j->(∀H,(es i).eff (base+i) H=H)\/(E i=true/\i<j)\/(E i=false/\j<i)\/ ∃bX oq,es i= .store bX oq/\bX≠id:=fun i hi e=>by
   have cP:=gU i hi;have lN:loud (ops.getD i default).op=true->(E i=true/\i<j)\/(E i=false/\j<i)\/(((iZ ops).getD j []).contains i=false/\((iZ ops).getD i []).contains j=false/\uG ops (ops.getD i default).op o.op=true):=fun pf=>by
    cases g1:((iZ ops).getD j []).contains i with
    |true=>exact .inl ⟨jP i g1,hc.lt i j hi hj g1⟩
    |false=>
     cases g2:((iZ ops).getD i []).contains j with
     |true=>exact .inr (.inl ⟨kK i g2,hc.lt j i hj hi g2⟩)
     |false=>
      rcases hc.lolo i j hi hj e pf (by rw [iX];exact hl) with g|g|g|g
      ·rw [g1] at g;cases g
      ·rw [g2] at g;cases g
      ·rw [iX,yn] at g;cases g.2
      ·rw [iX] at g;exact .inr (.inr ⟨rfl,rfl,g⟩)
   cases hk:es i with
   |skip=>left;intro H;rfl
   |quiet r=>left;intro H;rfl
   |alloc r oq=>
    replace cP:=cP.resolve_left (by rw [hk];intro h;cases h);rw [hk] at cP
    have:=hc.lo i j hi hj e cP.2.1 cP.2.2.1 (by rw [iX];exact hl)
    exact .inr (.inl ⟨jP i this,hc.lt i j hi hj this⟩)
   |ins bX n' x'=>
    replace cP:=cP.resolve_left (by rw [hk];intro h;cases h);rw [hk] at cP;obtain ⟨_,_,h3,t1,m1,k1,v1,p1,sN,_⟩:=cP
    have:=hc.ins i j hi hj e (by rw [sN];rfl) (by rw [iX];exact hl)
    rw [iX,yn] at this;cases this
   |app r g' oq=>
    replace cP:=cP.resolve_left (by rw [hk];intro h;cases h);rw [hk] at cP;obtain ⟨_,_,h3,s1,x1,t1,p1,sN,_⟩:=cP;rcases lN h3 with g|g|⟨_,_,g⟩
    ·exact .inr (.inl g)
    ·exact .inr (.inr (.inl g))
    ·rw [sN] at g;cases g
   |store bX oq=>
    replace cP:=cP.resolve_left (by rw [hk];intro h;cases h);rw [hk] at cP;obtain ⟨_,_,h3,t1,x1,y1,p1,sN,zO,aC⟩:=cP;rcases lN h3 with g|g|⟨u1,u2,g⟩
    ·exact .inr (.inl g)
    ·exact .inr (.inr (.inl g))
    ·refine .inr (.inr (.inr ⟨bX,oq,rfl,?_⟩));unfold uG at g;have gg: ∀a b,stP (ops.getD i default).op=some a->stP o.op=some b->xj ops (some a) (some b)=true:=fun a b h1 h2=>by rw [←h1,←h2];exact g
     cases ha:stP (ops.getD i default).op with
     |none=>rw [ha] at g;cases g
     |some a=>
      cases my:stP o.op with
      |none=>rw [ha,my] at g;cases g
      |some b=>
       have g2:=gg a b ha my;simp only [xj,Bool.and_eq_true,bne_iff_ne] at g2;have iW:=tE i j a b hi hj e u1 u2 ha (by rw [iX];exact my) g2.1.2 g2.2 g2.1.1;obtain ⟨off1,e1⟩:=Rm (ops:=ops) (es:=es) (fr0:=fr0) sN ha g2.1.2 zO;obtain ⟨off2,e2⟩:=Rm (ops:=ops) (es:=es) (fr0:=fr0) ho my g2.2 bH;unfold sep2 at iW;rw [e1,e2] at iW
       simp only [sepV,Bool.or_eq_true,beq_iff_eq,bne_iff_ne] at iW;rcases iW with h|h
       ·exact absurd h g2.1.1
       ·exact h
  have L1: ∀k,k<=ops.size->hget (hS base es H0 E k) id=hget (hS base es H0 (fun _=>true) (min k j)) id:=by
   intro k
   induction k with
   |zero=>intro _;simp [hS]
   |succ k ih=>
    intro hk;have db:=ih (by omega);by_cases e:k=j
    ·subst e;simp only [hS,qZ,if_false,Bool.false_eq_true];rw [db,Nat.min_self,show min (k+1) k=k by omega]
    ·by_cases PU:k<j
     ·rw [show min (k+1) j=k+1 by omega];rw [show min k j=k by omega] at db;simp only [hS,if_true];rcases kinds k (by omega) e with g1|⟨g1,_⟩|⟨_,g2⟩|⟨bX,oq,g1,g2⟩
      ·rw [g1,g1];split<;>exact db
      ·rw [if_pos g1];exact y30 _ _ db
      ·omega
      ·rw [g1];simp only [Ent.eff];rw [jB g2]
       split
       ·rw [jB g2];exact db
       ·exact db
     ·rw [show min (k+1) j=j by omega];rw [show min k j=j by omega] at db;simp only [hS]
      split
      ·rename_i Fz
       rcases kinds k (by omega) e with g1|⟨_,g2⟩|⟨g1,_⟩|⟨bX,oq,g1,g2⟩
       ·rw [g1];exact db
       ·omega
       ·rw [g1] at Fz;cases Fz
       ·rw [g1];simp only [Ent.eff];rw [jB g2];exact db
      ·exact db
  have hid:=L1 ops.size (Nat.le_refl _);rw [show min ops.size j=j by omega] at hid;rw [←y31 bH hid] at bH;have L2: ∀k,j<k->k<=ops.size-> ∀i,hget (hS base es H0 E' k) i=hget (hset (hS base es H0 E k) id ob) i:=by
   intro k
   induction k with
   |zero=>intro h;omega
   |succ k ih=>
    intro qa hk i;by_cases e:k=j
    ·subst e;have qf:hS base es H0 E' k=hS base es H0 E k:=by
      have gen: ∀q,q<=k->hS base es H0 E' q=hS base es H0 E q:=by
       intro q
       induction q with
       |zero=>intro _;rfl
       |succ q ihq=>intro hq;simp only [hS];rw [ihq (by omega),h2 q (by omega)]
      exact gen k (Nat.le_refl _)
     simp only [hS,h1,if_true,qZ,Bool.false_eq_true,if_false,iz,Ent.eff];rw [qf]
    ·have db:=ih (by omega) (by omega);simp only [hS,h2 k e]
     split
     ·rename_i Fz
      rcases kinds k (by omega) e with g1|⟨_,g2⟩|⟨g1,_⟩|⟨bX,oq,g1,g2⟩
      ·rw [g1,g1];exact db i
      ·omega
      ·rw [g1] at Fz;cases Fz
      ·rw [g1];simp only [Ent.eff];rw [xC,xC,xC,db i,xC];by_cases e1:bX=i
       ·rw [if_pos e1,if_neg (fun h=>g2 (e1.trans h.symm)),if_neg (fun h=>g2 (e1.trans h.symm)),if_pos e1]
       ·rw [if_neg e1,if_neg e1]
     ·exact db i
  obtain ⟨w',aQ,aZ⟩:=TF (P:=P) hs (gm.ev x) (gm.ev y) bH hp;rw [if_pos (oz hw)];left;have oD:(execOp a.eval o).run P w= .ok .skip w':=by simp only [execOp,ho];simp [aQ]
  unfold Oper.wp;rw [oD];refine hK _ _ _ ((aZ.put (d:=o.dst) (by rw [gB];exact ka) (.any _)).congr (fun t=>by rw [dA t,gB,iz];rfl) (fun i=>?_));rw [L2 ops.size hj (Nat.le_refl _) i]
 |app r g ob=>
  rw [iz] at gV;obtain ⟨hw,iL,hl,sx,x,t,p,ho,bH,hp⟩:=gV;obtain ⟨Qy,Qx⟩:=EV hl (by rw [ho];rfl) (by rw [ho];rfl);rw [←Qy] at bH;have kz:hget (hS base es H0 E ops.size) (base+j)=none:=by
   rw [Qy];have gen: ∀k,k<=j-> ∀i,base+k<=i->hget (hS base es H0 (fun _=>true) k) i=none:=by
    intro k
    induction k with
    |zero=>intro _ i hi;exact hb i (by omega)
    |succ k ih=>
     intro hk i hi;have db:=ih (by omega) i (by omega);simp only [hS,if_true];cases Fc:es k with
     |skip=>exact db
     |quiet r=>exact db
     |alloc r ob=>simp only [Ent.eff,hget];rw [if_neg (by omega)];exact db
     |store id ob=>
      simp only [Ent.eff];by_cases e:id=i
      ·subst e;have Cq: ∀(H:Hp),hget H id=none->hget (hset H id ob) id=none:=fun H hH=>by
        induction H with
        |nil=>rfl
        |cons q r ihr=>
         obtain ⟨m,oo⟩:=q;simp only [hget] at hH
         split at hH
         ·cases hH
         ·rename_i hm;simp only [hset,hm,if_false,hget];exact ihr hH
       exact Cq _ db
      ·rw [jB e];exact db
     |ins id n x=>
      have:=hc.ins k j (by omega) hj (by omega) (by
       have Fb:=(gU k (by omega)).resolve_left (by rw [Fc];intro h;cases h);rw [Fc] at Fb;obtain ⟨_,_,_,t',m',k',v',p',vr,_⟩:=Fb;rw [vr];rfl) (by rw [iX];exact hl)
      rw [iX,ho] at this;cases this
     |app r g ob=>
      simp only [Ent.eff,hget];rw [if_neg (by omega)];cases g with
      |none=>exact db
      |some id=>
       simp only [hgo];by_cases e:id=i
       ·subst e;have Cq: ∀(H:Hp),hget H id=none->hget (hset H id .gone) id=none:=fun H hH=>by
         induction H with
         |nil=>rfl
         |cons q r ihr=>
          obtain ⟨m,oo⟩:=q;simp only [hget] at hH
          split at hH
          ·cases hH
          ·rename_i hm;simp only [hset,hm,if_false,hget];exact ihr hH
        exact Cq _ db
       ·rw [jB e];exact db
   exact gen j (Nat.le_refl _) _ (Nat.le_refl _)
  obtain ⟨z,w',ρ',aQ,aZ,hv⟩:=y3w (P:=P) (ty:=o.type) hs kz (gm.ev sx) (gm.ev x) bH hp;rw [if_pos (oz hw)];left;have oD:(execOp a.eval o).run P w= .ok (.value z) w':=by simp [execOp,ho,resolve,invoke,builtin,aQ]
  unfold Oper.wp;rw [oD];refine hK _ _ _ ((aZ.put (d:=o.dst) (by rw [gB];exact ka) hv).congr (fun t=>by rw [dA t,gB,iz];rfl) (fun i=>?_));rw [Qx,iz,Qy];rfl
 |ins id n x=>
  rw [iz] at gV;obtain ⟨hw,iL,hl,t,mo,ko,vo,p,ho,bH,hp⟩:=gV;obtain ⟨kt,et,dH,gp,em,ek,ev,t',g,hg,rR⟩:=Rn bH hp;have eK:yfl (ops.getD j default).op=true:=by rw [iX,ho];rfl
  have kinds: ∀i,i<ops.size->i≠j->(∀H,(es i).eff (base+i) H=H)\/(i<j/\E i=true/\ ∃r ob,es i= .alloc r ob)\/ ∃bX n' x',es i= .ins bX n' x':=fun i hi e=>by
   have cP:=gU i hi;cases hk:es i with
   |skip=>left;intro H;rfl
   |quiet r=>left;intro H;rfl
   |alloc r oq=>
    replace cP:=cP.resolve_left (by rw [hk];intro h;cases h);rw [hk] at cP
    have:=hc.lo i j hi hj e cP.2.1 cP.2.2.1 (by rw [iX];exact hl)
    exact .inr (.inl ⟨hc.lt i j hi hj this,jP i this,r,oq,rfl⟩)
   |store bX oq=>
    replace cP:=cP.resolve_left (by rw [hk];intro h;cases h);rw [hk] at cP;obtain ⟨_,_,h3,t1,x1,y1,p1,sN,_⟩:=cP
    have:=hc.ins j i hj hi (Ne.symm e) eK h3
    rw [sN] at this;cases this
   |app r g' oq=>
    replace cP:=cP.resolve_left (by rw [hk];intro h;cases h);rw [hk] at cP;obtain ⟨_,_,h3,t1,x1,y1,p1,sN,_⟩:=cP
    have:=hc.ins j i hj hi (Ne.symm e) eK h3
    rw [sN] at this;cases this
   |ins bX n' x'=>exact .inr (.inr ⟨bX,n',x',rfl⟩)
  have L1: ∀k,k<=ops.size->vj (hS base es H0 E k) id=vj (hS base es H0 (fun _=>true) (min k j)) id:=by
   intro k
   induction k with
   |zero=>intro _;simp [hS]
   |succ k ih=>
    intro hk;have db:=ih (by omega);by_cases e:k=j
    ·subst e;simp only [hS,qZ,if_false,Bool.false_eq_true];rw [db,Nat.min_self,show min (k+1) k=k by omega]
    ·by_cases PU:k<j
     ·rw [show min (k+1) j=k+1 by omega];rw [show min k j=k by omega] at db;simp only [hS,if_true];rcases kinds k (by omega) e with g1|⟨_,g2,r,ob,g3⟩|⟨bX,n',x',g1⟩
      ·rw [g1,g1];split<;>exact db
      ·rw [if_pos g2,g3];simp only [Ent.eff,vj,hget]
       split
       ·rfl
       ·exact db
      ·rw [g1];simp only [Ent.eff,Km]
       split
       ·rw [Km];exact db
       ·exact db
     ·rw [show min (k+1) j=j by omega];rw [show min k j=j by omega] at db;simp only [hS]
      split
      ·rcases kinds k (by omega) e with g1|⟨g2,_⟩|⟨bX,n',x',g1⟩
       ·rw [g1];exact db
       ·omega
       ·rw [g1];simp only [Ent.eff,Km];exact db
      ·exact db
  have Xp:=L1 ops.size (Nat.le_refl _);rw [show min ops.size j=j by omega] at Xp;have PU:vj (hS base es H0 (fun _=>true) j) id=some t':=by unfold vj;rw [hg];rfl
  obtain ⟨gE,Xz⟩: ∃gE,hget (hS base es H0 E ops.size) id=some (.fmap t' (.ints gE)):=ZI (Xp.trans PU);have L3: ∀k,j<k->k<=ops.size->(AM (hS base es H0 (fun _=>true) k) id n).isSome=true:=by
   intro k
   induction k with
   |zero=>intro h;omega
   |succ k ih=>
    intro qa hk;by_cases e:k=j
    ·subst e;simp only [hS,if_true,iz,Ent.eff];rw [ZH hg];rfl
    ·have db:=ih (by omega) (by omega);simp only [hS,if_true];rcases kinds k (by omega) e with g1|⟨g2,_⟩|⟨bX,n',x',g1⟩
     ·rw [g1];exact db
     ·omega
     ·rw [g1];simp only [Ent.eff];exact N9 db
  have Fe: ∀k,j<k->k<ops.size-> ∀bX n' x',es k= .ins bX n' x'->bX≠id\/n'≠n:=by
   intro k qa hk bX n' x' Fc;have rQ:=(gU k hk).resolve_left (by rw [Fc];intro h;cases h);rw [Fc] at rQ;obtain ⟨_,_,_,t1,m1,k1,v1,p1,sN,zO,aC⟩:=rQ;obtain ⟨_,_,_,_,_,_,_,t2,g2,po,P1⟩:=Rn zO aC;by_cases e1:bX=id
   ·by_cases e2:n'=n
    ·exfalso;subst e1 e2
     have:=L3 k qa (by omega)
     unfold AM at this;rw [po] at this;simp only [I3,P1] at this;cases this
    ·exact .inr e2
   ·exact .inl e1
  have L2: ∀k,j<k->k<=ops.size-> ∀i,hget (hS base es H0 E' k) i=hget (insE (hS base es H0 E k) id n x) i:=by
   intro k
   induction k with
   |zero=>intro h;omega
   |succ k ih=>
    intro qa hk i;by_cases e:k=j
    ·subst e;have qf:hS base es H0 E' k=hS base es H0 E k:=by
      have gen: ∀q,q<=k->hS base es H0 E' q=hS base es H0 E q:=by
       intro q
       induction q with
       |zero=>intro _;rfl
       |succ q ihq=>intro hq;simp only [hS];rw [ihq (by omega),h2 q (by omega)]
      exact gen k (Nat.le_refl _)
     simp only [hS,h1,if_true,qZ,Bool.false_eq_true,if_false,iz,Ent.eff];rw [qf]
    ·have db:=ih (by omega) (by omega);simp only [hS,h2 k e]
     split
     ·rcases kinds k (by omega) e with g1|⟨g2,_⟩|⟨bX,n',x',g1⟩
      ·rw [g1,g1];exact db i
      ·omega
      ·rw [g1];simp only [Ent.eff];exact y3z db (Fe k (by omega) (by omega) bX n' x' g1) i
     ·exact db i
  have hmu:muF P (hS base es H0 E ops.size) t (.mp id) (.int .i64 n) (.int .i64 x)=some (id, .fmap t' (.ints (updI gE n x))):=by
   unfold muF;rw [dH];simp only [gp,muK,Xz,muM]
  have yp:=gm.ev mo;have jG:=gm.ev ko;have hv1:=gm.ev vo;rw [em] at yp;rw [ek] at jG;rw [ev] at hv1;obtain ⟨w',aQ,aZ⟩:=Ls (P:=P) hs yp jG hv1 hmu;rw [if_pos (oz hw)];left;have oD:(execOp a.eval o).run P w= .ok .skip w':=by simp only [execOp,ho];simp [aQ]
  unfold Oper.wp;rw [oD];refine hK _ _ _ ((aZ.put (d:=o.dst) (by rw [gB];exact ka) (.any _)).congr (fun t=>by rw [dA t,gB,iz];rfl) (fun i=>?_));rw [L2 ops.size hj (Nat.le_refl _) i];unfold insE;rw [Xz];rfl
theorem To {q:Nat} (hq:q<=ops.size) {H:Hp} {fr:Fr} (hc:QY ops ex dl) (tE: ∀i j a b,i<ops.size->j<ops.size->i≠j->((iZ ops).getD j []).contains i=false->((iZ ops).getD i []).contains j=false->stP (ops.getD i default).op=some a->stP (ops.getD j default).op=some b->tg ops a=true->tg ops b=true->a≠b->sep2 fr a b=true)
  (gU: ∀j,j<ops.size->es j= .skip\/uF P ops (hnew H) ex dl j (ops.getD j default) (frS ops es fr (fun _=>true) j) (hS (hnew H) es H (fun _=>true) j) (es j))
  (gV: ∀j,j<q->dok (fL ops j) N=true/\uF P ops (hnew H) ex dl j (ops.getD j default) (frS ops es fr (fun _=>true) j) (hS (hnew H) es H (fun _=>true) j) (es j))
  (iP: ∀j,q<=j->j<ops.size-> ∀i,i<q->((iZ ops).getD j []).contains i=true) (Q:Exit->Act->World->Prop)
  (post: ∀(listed:Array Bool) (a:Act) (w:World) (ρ:Nat->Addr),listed.size=ops.size->(∀i,i<ops.size->listed.getD i false=decide (i<q))->aK B w0 Mx N w ρ (frS ops es fr (fun _=>true) q) (hS (hnew H) es H (fun _=>true) q) a->wpAny P .any ops Q (ops.size-q) listed a w):
  ∀(f:Nat) (listed:Array Bool) (a:Act) (w:World),listed.size=ops.size->cntE (fun i=>listed.getD i false) ops.size+f=q->(∀i,q<=i->listed.getD i false=false)->Bp ops (fun i=>listed.getD i false)->
   (∃ρ,aK B w0 Mx N w ρ (frS ops es fr (fun i=>listed.getD i false) ops.size) (hS (hnew H) es H (fun i=>listed.getD i false) ops.size) a)->
   wpAny P .any ops Q (ops.size-q+f) listed a w:=by
 have FL: ∀(E:Nat->Bool),(∀i,q<=i->E i=false)->cntE E ops.size=cntE E q:=by
  intro E hE;have gen: ∀d,q+d<=ops.size->cntE E (q+d)=cntE E q:=by
   intro d
   induction d with
   |zero=>intro _;rfl
   |succ d ih=>intro hd;rw [←Nat.add_assoc];simp only [cntE,hE (q+d) (by omega),Bool.false_eq_true,if_false];exact ih (by omega)
  have:=gen (ops.size-q) (by omega)
  rwa [show q+(ops.size-q)=ops.size by omega] at this
 intro f
 induction f with
 |zero=>
  intro listed a w gM jN cD bO ⟨ρ,hs⟩;rw [FL _ cD] at jN;have cE:=SF q (by omega:cntE (fun i=>listed.getD i false) q=q);have pf: ∀i,i<ops.size->listed.getD i false=decide (i<q):=fun i hi=>by
   by_cases e:i<q
   ·rw [cE i e];simp [e]
   ·rw [cD i (by omega)];simp [e]
  have e1: ∀t,fget (frS ops es fr (fun _=>true) q) t=fget (frS ops es fr (fun i=>listed.getD i false) ops.size) t:=fun t=>by
   rw [←VL (ops:=ops) (es:=es) (fr0:=fr) (j:=q) (E:=fun i=>decide (i<q)) (fun _=>rfl) ops.size hq];exact HG ops.size fun i hi _=>(pf i hi).symm
  have e2:hS (hnew H) es H (fun _=>true) q=hS (hnew H) es H (fun i=>listed.getD i false) ops.size:=by
   rw [←OP (base:=hnew H) (es:=es) (H0:=H) (j:=q) (E:=fun i=>decide (i<q)) (fun _=>rfl) ops.size hq];exact BL ops.size fun i hi=> .inr (pf i hi).symm
  exact post listed a w ρ gM pf (hs.congr e1 (fun i=>by rw [e2]))
 |succ f ih=>
  intro listed a w gM jN cD bO ⟨ρ,hs⟩;have wA: ∃j,j<q/\listed.getD j false=false:=by
   refine Classical.byContradiction fun hn=>?_;have cE: ∀i,i<q->listed.getD i false=true:=fun i hi=>by
    cases hh:listed.getD i false with
    |true=>rfl
    |false=>exact absurd ⟨i,hi,hh⟩ hn
   have kN: ∀k,k<=q->cntE (fun i=>listed.getD i false) k=k:=by
    intro k
    induction k with
    |zero=>intro _;rfl
    |succ k db=>intro hk;simp only [cntE,db (by omega),cE k (by omega),if_true]
   rw [FL _ cD,kN q (Nat.le_refl _)] at jN;omega
  refine ⟨fun fH=>?_,fun j hj=>?_⟩
  ·exfalso;obtain ⟨j0,hj0,hf0⟩:=wA;have gen: ∀m,∀j,j<=m->j<q->listed.getD j false=false-> ∃j,j<q/\listed.getD j false=false/\ ∀i,i<j->listed.getD i false=true:=by
    intro m
    induction m with
    |zero=>intro j tO hj hf;exact ⟨j,hj,hf,fun i hi=>by omega⟩
    |succ m ihm=>
     intro j tO hj hf;by_cases Il: ∃i,i<j/\listed.getD i false=false
     ·obtain ⟨i,eK,tY⟩:=Il;exact ihm i (by omega) (by omega) tY
     ·refine ⟨j,hj,hf,fun i hi=>?_⟩;cases hh:listed.getD i false with
      |true=>rfl
      |false=>exact absurd ⟨i,hi,hh⟩ Il
   obtain ⟨j,hj,hf,Il⟩:=gen j0 j0 (Nat.le_refl _) hj0 hf0;have hj:j<ops.size:=by omega
   have:j∈Region.ready .any ops listed:=mem_ready.2 ⟨by
    have cO:j<listed.size:=by omega
    simpa [cO] using hf,ops[j],by simp [hj],fun e he Qi=>Il _ (hc.elt j hj e.on (by
     simp only [oV,List.mem_map,List.mem_filter];exact ⟨e,⟨by simpa [hj] using he,Qi⟩,rfl⟩))⟩
   rw [fH] at this;cases this
  ·obtain ⟨g1,o,g2,g3⟩:=mem_ready.1 hj;have fx:j<ops.size:=(Array.getElem?_eq_some_iff.1 g2).1;have cO:j<listed.size:=by omega
   have qZ:listed.getD j false=false:=by simpa [cO] using g1
   have ho:ops.getD j default=o:=by simp [g2]
   have tZ: ∀e∈oV (ops.getD j default),listed.getD e false=true:=fun e he=>by
    rw [ho] at he;simp only [oV,List.mem_map,List.mem_filter] at he;obtain ⟨x,⟨Ev,hx2⟩,rfl⟩:=he;exact g3 x (by simpa using Ev) hx2
   have Iy:j<q:=by
    rcases Nat.lt_or_ge j q with g|g
    ·exact g
    ·obtain ⟨i,hi,tY⟩:=wA
     have:=JB (E:=fun i=>listed.getD i false) bO (iP j g fx i hi) tZ
     rw [tY] at this;cases this
   have oC:(listed.setIfInBounds j true).getD j false=true:=by simp [cO]
   have oB: ∀i,i≠j->(listed.setIfInBounds j true).getD i false=listed.getD i false:=fun i hi=>getD_set_ne false (Ne.symm hi)
   refine y32 (P:=P) (N:=N) (ex:=ex) (dl:=dl) hc tE (fun i hi=>BO hi) gU bO (fun i hi=>?_) fx (gV j Iy).1 (gV j Iy).2 qZ tZ hs (E':=fun i=>(listed.setIfInBounds j true).getD i false) oC oB _ _ (fun a' w' ρ' aZ=>ih _ a' w' (by simpa using gM) ?_ ?_ ?_ ⟨ρ',aZ⟩)
   ·have fi:i<listed.size:=by
     rcases Nat.lt_or_ge i listed.size with g|g
     ·exact g
     ·simp [Nat.not_lt.2 g] at hi
    omega
   ·have:=SE (E:=fun i=>listed.getD i false) (E':=fun i=>(listed.setIfInBounds j true).getD i false) qZ oC oB ops.size
    rw [if_pos fx] at this;omega
   ·intro i hi;rw [oB i (by omega)];exact cD i hi
   ·intro k hk i hi;show (listed.setIfInBounds j true).getD i false=true;have hk:(listed.setIfInBounds j true).getD k false=true:=hk;by_cases e:i=j
    ·subst e;exact oC
    ·rw [oB i e];by_cases ek:k=j
     ·subst ek;exact tZ i hi
     ·rw [oB k ek] at hk;exact bO k hk i hi
theorem TN {q:Nat} {H:Hp} {fr:Fr} {a:Act} {w:World} {ρ:Nat->Addr} {Q:Exit->Act->World->Prop} (hq:q<=ops.size) (hs:aK B w0 Mx N w ρ fr H a)
  (EU: ∀(f:Nat) (listed:Array Bool) (a:Act) (w:World),listed.size=ops.size->cntE (fun i=>listed.getD i false) ops.size+f=q->(∀i,q<=i->listed.getD i false=false)->Bp ops (fun i=>listed.getD i false)->
   (∃ρ,aK B w0 Mx N w ρ (frS ops es fr (fun i=>listed.getD i false) ops.size) (hS (hnew H) es H (fun i=>listed.getD i false) ops.size) a)->
   wpAny P .any ops Q (ops.size-q+f) listed a w):wpAny P .any ops Q ops.size (Array.replicate ops.size false) a {w with drawn:=w.drawn+1}:=by
 have h0:=EU q (Array.replicate ops.size false) a {w with drawn:=w.drawn+1} (by simp) ?_ (fun i _=>xD _ _) (fun j hj=>?_) ⟨ρ,(hs.draw).congr (fun t=>?_) (fun i=>?_)⟩
 ·rwa [show ops.size-q+q=ops.size by omega] at h0
 ·have: ∀k,cntE (fun i=>(Array.replicate ops.size false).getD i false) k=0:=by
   intro k
   induction k with
   |zero=>rfl
   |succ k db=>simp only [xD] at db;simp only [cntE,xD,db];rfl
  rw [this];omega
 ·exfalso;have hj:(Array.replicate ops.size false).getD j false=true:=hj;rw [xD] at hj;cases hj
 ·have: ∀k,frS ops es fr (fun i=>(Array.replicate ops.size false).getD i false) k=fr:=by
   intro k
   induction k with
   |zero=>rfl
   |succ k db=>simp only [xD] at db;simp only [frS,xD,db];rfl
  rw [this]
 ·have: ∀k,hS (hnew H) es H (fun i=>(Array.replicate ops.size false).getD i false) k=H:=by
   intro k
   induction k with
   |zero=>rfl
   |succ k db=>simp only [xD] at db;simp only [hS,xD,db];rfl
  rw [this]
theorem Tn {listed:Array Bool} (gM:listed.size=ops.size) (cE: ∀i,i<ops.size->listed.getD i false=true):Region.ready .any ops listed=[]:=by
 rw [List.eq_nil_iff_forall_not_mem];intro j hj;obtain ⟨g1,o,g2,_⟩:=mem_ready.1 hj;have fx:j<ops.size:=(Array.getElem?_eq_some_iff.1 g2).1
 have:=cE j fx
 have cO:j<listed.size:=by omega
 simp [cO] at this g1;rw [this] at g1;cases g1
theorem an.zH {id:Nat} {fr:Fr} {H:Hp} {Q:Exit->Fr->Hp->Prop} (ex dl:List (List Nat)) (gY:(FM ops ex dl&&(ex.length==ops.size)&&(dl.length==ops.size))=true) (hm:P.follows .mixedOrders=true)
  (tE: ∀i j a b,i<ops.size->j<ops.size->i≠j->((iZ ops).getD j []).contains i=false->((iZ ops).getD i []).contains j=false->stP (ops.getD i default).op=some a->stP (ops.getD j default).op=some b->tg ops a=true->tg ops b=true->a≠b->sep2 fr a b=true)
  (h:awD P N ops (hnew H) 0 ops.toList ex dl fr H (Q .normal)):an P N id ops fr H Q:=by
 simp only [Bool.and_eq_true,beq_iff_eq] at gY;obtain ⟨⟨ji,pg⟩,tN⟩:=gY;have hc:=VK ji;obtain ⟨es,h1,h2⟩:=Ld (P:=P) (N:=N) (ops:=ops) (base:=hnew H) (ex:=ex) (dl:=dl) ops.size 0 fr H (by omega) pg tN (by
  rw [List.take_of_length_le (by simp)];simpa using h)
 have gU: ∀j,j<ops.size->dok (fL ops j) N=true/\uF P ops (hnew H) ex dl j (ops.getD j default) (frS ops es fr (fun _=>true) j) (hS (hnew H) es H (fun _=>true) j) (es j):=fun j hj=>by
  obtain ⟨g1,fr',H',g2,g3,g4⟩:=h1 j hj;rw [Nat.zero_add] at g1 g4;rw [C8] at g2;rw [CI] at g3;subst g2 g3;exact ⟨g1,g4⟩
 rw [C8,CI] at h2;refine ⟨fun B w0 Mx w ρ a hs=>wp_region_any hm (TN (q:=ops.size) (Nat.le_refl _) hs (To (Nat.le_refl _) hc tE (fun j hj=> .inr (gU j hj).2) gU (fun j h1 h2=>by omega) _ (fun listed a w ρ gM pf hs=>?_)))⟩;rw [Nat.sub_self];exact ⟨Tn gM (fun i hi=>by rw [pf i hi];simp [hi]),ρ,_,_,h2,hs⟩
def y10 (P:Program) (N:Nat) (ops:Array Oper) (K:Fr->Hp->Prop) (fr:Fr) (H:Hp):Prop:=awL P N ops (ops.toList.drop (ops.size-1)) fr H K
theorem an.aq {id:Nat} {fr:Fr} {H:Hp} {Q:Exit->Fr->Hp->Prop} (ex dl:List (List Nat)) (gY:(FM ops ex dl&&(ex.length==ops.size)&&(dl.length==ops.size)&&xZ ops&&RC ops)=true) (hm:P.follows .mixedOrders=true)
  (h:awD P N ops (hnew H) 0 (ops.toList.take (ops.size-1)) ex dl fr H (y10 P N ops (Q .normal))):an P N id ops fr H Q:=by
 simp only [Bool.and_eq_true,beq_iff_eq] at gY;obtain ⟨⟨⟨⟨ji,pg⟩,tN⟩,sP⟩,PS⟩:=gY;have hc:=VK ji;unfold RC at PS;simp only [Bool.and_eq_true,decide_eq_true_eq,Option.isNone_iff_eq_none,List.all_eq_true,List.mem_range] at PS;obtain ⟨⟨zU,rR⟩,jP⟩:=PS
 obtain ⟨dV,h1',FA⟩:=Ld (P:=P) (N:=N) (ops:=ops) (base:=hnew H) (ex:=ex) (dl:=dl) (ops.size-1) 0 fr H (by omega) pg tN (by simpa only [List.drop_zero] using h);obtain ⟨es,P8,Fa⟩: ∃es:Nat->Ent,es (ops.size-1)= .skip/\ ∀i,i<ops.size-1->es i=dV i:=⟨fun i=>if i<ops.size-1 then dV i else .skip,by simp,fun i hi=>by simp [hi]⟩
 have dm: ∀k,k<=ops.size-1->frS ops es fr (fun _=>true) k=frS ops dV fr (fun _=>true) k/\hS (hnew H) es H (fun _=>true) k=hS (hnew H) dV H (fun _=>true) k:=by
  intro k
  induction k with
  |zero=>intro _;exact ⟨rfl,rfl⟩
  |succ k ih=>
   intro hk;obtain ⟨i1,i2⟩:=ih (by omega);simp only [frS,hS,if_true,i1,i2,Fa k (by omega),and_self]
 have gU: ∀j,j<ops.size-1->dok (fL ops j) N=true/\uF P ops (hnew H) ex dl j (ops.getD j default) (frS ops es fr (fun _=>true) j) (hS (hnew H) es H (fun _=>true) j) (es j):=fun j hj=>by
  obtain ⟨g1,fr',H',g2,g3,g4⟩:=h1' j hj;rw [Nat.zero_add] at g1 g4;rw [C8] at g2;rw [CI] at g3;subst g2 g3;rw [(dm j (by omega)).1,(dm j (by omega)).2,Fa j hj];exact ⟨g1,g4⟩
 rw [C8,CI,←(dm (ops.size-1) (Nat.le_refl _)).1,←(dm (ops.size-1) (Nat.le_refl _)).2] at FA;refine ⟨fun B w0 Mx w ρ a hs=>wp_region_any hm (TN (q:=ops.size-1) (by omega) hs (To (by omega) hc (fun i j a b hi hj az h1 h2 ha hb ua ub fC=>?_) (fun j hj=>?_) gU (fun j h1 h2 i hi=>?_) _ (fun listed a w ρ gM pf hs=>?_)))⟩
 ·exfalso;have h0:=List.all_eq_true.1 (List.all_eq_true.1 sP j (by simpa using hj)) i (by simpa using hi);simp only [Bool.or_eq_true,beq_iff_eq,Bool.not_eq_true'] at h0;rcases h0 with ((h0|h0)|h0)|h0
  ·exact az h0
  ·unfold uG at h0;rw [ha,hb] at h0;simp only [xj,ua,ub,Bool.and_true,bne_eq_false_iff_eq] at h0;exact fC h0
  ·rw [h1] at h0;cases h0
  ·rw [h2] at h0;cases h0
 ·rcases Nat.lt_or_ge j (ops.size-1) with g|g
  ·exact .inr (gU j g).2
  ·rw [show j=ops.size-1 by omega];exact .inl P8
 ·rw [show j=ops.size-1 by omega];exact jP i hi
 ·rw [show ops.size-(ops.size-1)=0+1 by omega];refine ⟨fun fH=>?_,fun j hj=>?_⟩
  ·exfalso
   have:ops.size-1∈Region.ready .any ops listed:=mem_ready.2 ⟨by
    have cO:ops.size-1<listed.size:=by omega
    have:=pf (ops.size-1) (by omega)
    simpa [cO] using this,ops[ops.size-1],by simp,fun e he Qi=>by
     have aG:=hc.elt (ops.size-1) (by omega) e.on (by
      simp only [oV,List.mem_map,List.mem_filter];refine ⟨e,⟨?_,Qi⟩,rfl⟩;have Am:ops.getD (ops.size-1) default=ops[ops.size-1]:=by simp [show ops.size-1<ops.size by omega]
      rw [Am];simpa using he)
     rw [pf e.on (by omega)];simp [aG]⟩
   rw [fH] at this;cases this
  ·obtain ⟨g1,o,g2,g3⟩:=mem_ready.1 hj;have fx:j<ops.size:=(Array.getElem?_eq_some_iff.1 g2).1;have cO:j<listed.size:=by omega
   have qZ:listed.getD j false=false:=by simpa [cO] using g1
   have Iy:j=ops.size-1:=by
    rw [pf j fx] at qZ
    have: ¬j<ops.size-1:=by simpa using qZ
    omega
   subst Iy;have ho:ops.getD (ops.size-1) default=o:=by simp [g2]
   unfold wpOp;rw [g2];simp only;rw [ho] at rR;unfold y10 at FA;have IE:ops.toList.drop (ops.size-1)=[o]:=by
    rw [List.drop_eq_getElem_cons (by simp;omega),List.drop_of_length_le (by simp;omega)]
    have:=(Array.getElem?_eq_some_iff.1 g2).2
    simpa using this
   rw [IE] at FA;simp only [awL,rR] at FA;rw [if_pos (by simp [Region.wanted,rR])];left;refine Oper.wp_mono ?_ (Dt hs FA _);rintro a' w' ⟨ρ',fr',H',hq,aZ⟩;exact ⟨Tn (by simpa using gM) (fun i hi=>by
    by_cases e:i=ops.size-1
    ·subst e;simp [cO]
    ·rw [getD_set_ne false (Ne.symm e),pf i hi];simp;omega),ρ',fr',H',hq,aZ⟩
theorem an.intro {id:Nat} {fr:Fr} {H:Hp} {Q:Exit->Fr->Hp->Prop} (ex dl:List (List Nat)) (gY:(FM ops ex dl&&(ex.length==ops.size)&&(dl.length==ops.size)&&xZ ops)=true) (hm:P.follows .mixedOrders=true)
  (h:awD P N ops (hnew H) 0 ops.toList ex dl fr H (Q .normal)):an P N id ops fr H Q:=by
 rw [Bool.and_eq_true] at gY;refine an.zH ex dl gY.1 hm (fun i j a b hi hj az h1 h2 ha hb ua ub fC=>?_) h;exfalso;have h0:=List.all_eq_true.1 (List.all_eq_true.1 gY.2 j (by simpa using hj)) i (by simpa using hi);simp only [Bool.or_eq_true,beq_iff_eq,Bool.not_eq_true'] at h0;rcases h0 with ((h0|h0)|h0)|h0
 ·exact az h0
 ·unfold uG at h0;rw [ha,hb] at h0;simp only [xj,ua,ub,Bool.and_true,bne_eq_false_iff_eq] at h0;exact fC h0
 ·rw [h1] at h0;cases h0
 ·rw [h2] at h0;cases h0
end
inductive Tr where
 |done
 |node (l:List (Nat×Tr))
mutual
def chkT (ops:Array Oper) (listed:Array Bool):Nat->Tr->Bool
 |0, .done=>(Region.ready .any ops listed).isEmpty
 |f+1, .node l=> !(Region.ready .any ops listed).isEmpty&&(Region.ready .any ops listed==l.map (·.1))&&F8 ops listed f l
 |_,_=>false
def F8 (ops:Array Oper) (listed:Array Bool) (f:Nat):List (Nat×Tr)->Bool
 |[]=>true
 |(i,t)::r=>chkT ops (listed.setIfInBounds i true) f t&&F8 ops listed f r
end
mutual
def awT (P:Program) (N:Nat) (ops:Array Oper):Tr->Fr->Hp->(Fr->Hp->Prop)->Prop
 | .done,fr,H,K=>K fr H
 | .node l,fr,H,K=>awTs P N ops l fr H K
def awTs (P:Program) (N:Nat) (ops:Array Oper):List (Nat×Tr)->Fr->Hp->(Fr->Hp->Prop)->Prop
 |[],_,_,_=>True
 |(i,t)::r,fr,H,K=>awL P N ops ((ops[i]?).toList) fr H (fun fr' H'=>awT P N ops t fr' H' K)/\awTs P N ops r fr H K
end
theorem TM {P:Program} {N:Nat} {ops:Array Oper} {B:Nat} {w0:ja} {Mx:Nat->Prop} {w:World} {ρ:Nat->Addr} {fr:Fr} {H:Hp} {a:Act} {K:Fr->Hp->Prop} {i:Nat} {o:Oper} (hi:ops[i]?=some o) (hq:awL P N ops [o] fr H K) (hs:aK B w0 Mx N w ρ fr H a) (Q:Exit->Act->World->Prop) (K':Act->World->Prop) (hK: ∀a' w' ρ' fr' H',K fr' H'->aK B w0 Mx N w' ρ' fr' H' a'->K' a' w'):wpOp P ops Q i K' a w:=by
 unfold wpOp;rw [hi];simp only [awL] at hq⊢;have iO: ∀(a':Act) (w':World),(∃ρ' fr' H',K fr' H'/\aK B w0 Mx N w' ρ' fr' H' a')->K' a' w':=fun a' w' ⟨ρ',fr',H',h1,h2⟩=>hK a' w' ρ' fr' H' h1 h2
 split at hq
 ·rename_i hg
  have hw:Region.wanted o (yielded ops a.tmps)=true:=by simp [Region.wanted,hg]
  rw [if_pos hw];exact .inl (Oper.wp_mono iO (Dt hs hq _))
 ·rename_i j b hg
  split at hq
  ·rename_i c hc
   have hy:=HS hs hc;by_cases kM:c=b
   ·have hw:Region.wanted o (yielded ops a.tmps)=true:=by simp [Region.wanted,hg,hy,kM]
    rw [if_pos hw];exact .inl (Oper.wp_mono iO (Dt (hs.gput (kM▸hc)) (hq.1 kM) _))
   ·have hw: ¬Region.wanted o (yielded ops a.tmps)=true:=by simp [Region.wanted,hg,hy,kM]
    rw [if_neg hw];have oO:c= !b:=by cases c<;>cases b<;>simp_all
    obtain ⟨hd,hq⟩:=hq.2 oO;exact hK _ _ ρ _ _ hq ((hs.gput (oO▸hc)).put hd (.tup [] [] rfl (fun i v x h=>by simp at h)))
  ·rename_i hc
   have hy:=LC hs hc;have hw: ¬Region.wanted o (yielded ops a.tmps)=true:=by simp [Region.wanted,hg,hy]
   rw [if_neg hw];exact hK _ _ ρ _ _ hq.2 (hs.put hq.1 (.tup [] [] rfl (fun i v x h=>by simp at h)))
  ·exact hq.elim
theorem Hr {P:Program} {N:Nat} {ops:Array Oper} {fr:Fr} {H:Hp} {K:Fr->Hp->Prop}: ∀(l:List (Nat×Tr)),awTs P N ops l fr H K-> ∀q∈l,awL P N ops ((ops[q.1]?).toList) fr H (fun fr' H'=>awT P N ops q.2 fr' H' K)
 |[],_,q,hq=>by cases hq
 |(i,t)::r,h,q,hq=>by
  simp only [awTs] at h;rcases List.mem_cons.1 hq with e|e
  ·subst e;exact h.1
  ·exact Hr r h.2 q e
theorem Tm {ops:Array Oper} {listed:Array Bool} {f:Nat}: ∀(l:List (Nat×Tr)),F8 ops listed f l=true-> ∀q∈l,chkT ops (listed.setIfInBounds q.1 true) f q.2=true
 |[],_,q,hq=>by cases hq
 |(i,t)::r,h,q,hq=>by
  simp only [F8,Bool.and_eq_true] at h;rcases List.mem_cons.1 hq with e|e
  ·subst e;exact h.1
  ·exact Tm r h.2 q e
theorem y33 {P:Program} {N:Nat} {ops:Array Oper} {B:Nat} {w0:ja} {Mx:Nat->Prop} {K:Fr->Hp->Prop} (Q:Exit->Act->World->Prop) (hQ: ∀a' w' ρ' fr' H',K fr' H'->aK B w0 Mx N w' ρ' fr' H' a'->Q .normal a' w'): ∀(f:Nat) (t:Tr) (listed:Array Bool) (w:World) (ρ:Nat->Addr) (fr:Fr) (H:Hp) (a:Act),chkT ops listed f t=true->awT P N ops t fr H K->aK B w0 Mx N w ρ fr H a->wpAny P .any ops Q f listed a w:=by
 intro f
 induction f with
 |zero=>
  intro t listed w ρ fr H a hc h hs;cases t with
  |done=>
   simp only [chkT,List.isEmpty_iff] at hc;simp only [awT] at h;exact ⟨hc,hQ _ _ ρ _ _ h hs⟩
  |node l=>simp [chkT] at hc
 |succ f ih=>
  intro t listed w ρ fr H a hc h hs;cases t with
  |done=>simp [chkT] at hc
  |node l=>
   simp only [chkT,Bool.and_eq_true,Bool.not_eq_true',beq_iff_eq] at hc;simp only [awT] at h;refine ⟨fun fH=>by rw [fH] at hc;simp at hc,fun i hi=>?_⟩;rw [hc.1.2] at hi;obtain ⟨q,hq,rfl⟩:=List.mem_map.1 hi;have h1:=Hr l h q hq;have h2:=Tm l hc.2 q hq;have hr:q.1∈Region.ready .any ops listed:=by rw [hc.1.2];exact List.mem_map_of_mem hq
   obtain ⟨_,o,g2,_⟩:=mem_ready.1 hr;rw [g2] at h1;exact TM g2 h1 hs _ _ fun a' w' ρ' fr' H' hk aZ=>ih q.2 _ w' ρ' fr' H' a' h2 hk aZ
theorem an.aB {P:Program} {N:Nat} {ops:Array Oper} {id:Nat} {fr:Fr} {H:Hp} {Q:Exit->Fr->Hp->Prop} (t:Tr) (gY:chkT ops (Array.replicate ops.size false) ops.size t=true) (hm:P.follows .mixedOrders=true)
  (h:awT P N ops t fr H (Q .normal)):an P N id ops fr H Q:=
 ⟨fun _ _ _ _ ρ a hs=>wp_region_any hm (y33 _ (fun _ _ ρ' fr' H' hk aZ=>⟨ρ',fr',H',hk,aZ⟩) ops.size t _ _ ρ fr H a gY h hs.draw)⟩
section
variable {P:Program} {N:Nat} {ops:Array Oper} {fr fr':Fr} {H H':Hp} {K:Fr->Hp->Prop}
theorem y34 {t:Tr} (h1:fr=fr') (h2:H=H'):awT P N ops t fr H K=awT P N ops t fr' H' K:=by rw [h1,h2]
theorem y11 {l:List (Nat×Tr)} (h1:fr=fr') (h2:H=H'):awTs P N ops l fr H K=awTs P N ops l fr' H' K:=by rw [h1,h2]
end
attribute [congr] y34 y11
attribute [go_sem] awT awTs Option.toList_some
section
variable (P:Program) (N:Nat) (ops:Array Oper) (base j:Nat) (fr:Fr) (H:Hp) (K:Fr->Hp->Prop)
structure yR (d:Option Nat) (Hd:Hp) (r:List Oper) (bI bJ:List (List Nat)) (g:Nat) (xs:List AV):Prop where
 out:AU P g xs Hd (base+j) (fun x=>awD P N ops base (j+1) r bI bJ (fput fr d x) H K) (fun x ob=>awD P N ops base (j+1) r bI bJ (fput fr d x) ((base+j,ob)::H) K)
def kQ (o:Oper) (r:List Oper) (bI bJ:List (List Nat)) (p:Prop) (x:AV):Prop:=p/\awD P N ops base (j+1) r bI bJ (fput fr o.dst x) H K
def kR (o:Oper) (r:List Oper) (bI:List (List Nat)) (dl:List Nat) (bJ:List (List Nat)) (p:Prop) (x:AV):Prop:=(yas (dl.map (base+ ·)) H).all (fun q=>sO (yas (dl.map (base+ ·)) H) q.2)=true/\p/\awD P N ops base (j+1) r bI bJ (fput fr o.dst x) H K
def kA (o:Oper) (r:List Oper) (bI bJ:List (List Nat)) (p:Prop) (q:AV×AObj):Prop:=p/\awD P N ops base (j+1) r bI bJ (fput fr o.dst q.1) ((base+j,q.2)::H) K
def kS (o:Oper) (r:List Oper) (bI bJ:List (List Nat)) (p:Prop) (q:Nat×AObj):Prop:=p/\awD P N ops base (j+1) r bI bJ (fput fr o.dst .any) (hset H q.1 q.2) K
def kI (o:Oper) (r:List Oper) (bI bJ:List (List Nat)) (p:Prop) (q:Nat×Int×Int):Prop:=p/\awD P N ops base (j+1) r bI bJ (fput fr o.dst .any) (insE H q.1 q.2.1 q.2.2) K
def kP (o:Oper) (r:List Oper) (bI bJ:List (List Nat)) (p:Prop) (q:AV×Option Nat×AObj):Prop:=p/\awD P N ops base (j+1) r bI bJ (fput fr o.dst q.1) ((base+j,q.2.2)::hgo H q.2.1) K
def kC (o:Oper) (r:List Oper) (bI:List (List Nat)) (dl:List Nat) (bJ:List (List Nat)) (xs:List AV) (g:Nat) (cap:List AV):Prop:=(yas (dl.map (base+ ·)) H).all (fun q=>sO (yas (dl.map (base+ ·)) H) q.2)=true/\yR P N ops base j fr H K o.dst (yas (dl.map (base+ ·)) H) r bI bJ g (xs++cap)
def awDX (o:Oper) (r:List Oper) (ex:List Nat) (bI:List (List Nat)) (dl:List Nat) (bJ:List (List Nat)):Prop:=match o.op with
 | .store t x y=>mO (stF P H t (evA (cr ex fr) x) (evA (cr ex fr) y)) (kS P N ops base j fr H K o r bI bJ) False
 | .insert t m k v=>mO (inF P H t (evA (cr ex fr) m) (evA (cr ex fr) k) (evA (cr ex fr) v)) (kI P N ops base j fr H K o r bI bJ) False
 | .call {callee:= .builtin .append,args:=args,argTypes:=ts}=>match args.toList,ts.toList with
   |[s,x],[t,t']=>t=t'/\mO (apG P (base+j) H t (evA (cr ex fr) s) (evA (cr ex fr) x)) (kP P N ops base j fr H K o r bI bJ) False
   |_,_=>False
 | .call {callee:= .value f,args:=args, .. }=>mF (evA (ll (yas (dl.map (base+ ·)) H) (cr ex fr)) f) (kC P N ops base j fr H K o r bI dl bJ (args.toList.map (evA (ll (yas (dl.map (base+ ·)) H) (cr ex fr)))))
 |_=>False
def awDn (o:Oper) (r:List Oper) (ex:List Nat) (bI:List (List Nat)) (dl:List Nat) (bJ:List (List Nat)):Prop:=cvOk P o.op=true/\dok o.dst N=true/\if ydi o.op then mO (quF P H (evA (cr ex fr)) o.op) (kQ P N ops base j fr H K o r bI bJ) False
    else mO (quF P (yas (dl.map (base+ ·)) H) (evA (ll (yas (dl.map (base+ ·)) H) (cr ex fr))) o.op) (kR P N ops base j fr H K o r bI dl bJ)
     (mO (alF P (base+j) (evA (cr ex fr)) o.op) (kA P N ops base j fr H K o r bI bJ) (awDX P N ops base j fr H K o r ex bI dl bJ))
theorem Rl (o:Oper) (r:List Oper) (ex:List Nat) (bI:List (List Nat)) (dl:List Nat) (bJ:List (List Nat)):(awD.awDO P N base j o ex dl fr H fun fr' H'=>awD P N ops base (j+1) r bI bJ fr' H' K)=awDn P N ops base j fr H K o r ex bI dl bJ:=by
 unfold awD.awDO awDn awDX mO
 split
 ·rcases quF P H (evA (cr ex fr)) o.op with _|⟨p,r⟩<;>rfl
 ·rcases quF P (yas (dl.map (base+ ·)) H) (evA (ll (yas (dl.map (base+ ·)) H) (cr ex fr))) o.op with _|⟨p,r⟩
  ·rcases alF P (base+j) (evA (cr ex fr)) o.op with _|⟨p,r,ob⟩
   ·simp only;generalize o.op=op;cases op<;>try rfl
    case store t x y=>
     simp only;rcases stF P H t (evA (cr ex fr) x) (evA (cr ex fr) y) with _|⟨p,i,ob⟩<;>rfl
    case insert t m k v=>
     simp only;rcases inF P H t (evA (cr ex fr) m) (evA (cr ex fr) k) (evA (cr ex fr) v) with _|⟨p,i,n,x⟩<;>rfl
    case call c=>
     obtain ⟨callee,args,ts⟩:=c;cases callee<;>try rfl
     case builtin b=>
      cases b<;>try rfl
      generalize hl:args.toList=l1;generalize hm:ts.toList=l2;simp only [hl,hm]
      match l1,l2 with
      |[s,x],[t,t']=>
       simp only;rcases apG P (base+j) H t (evA (cr ex fr) s) (evA (cr ex fr) x) with _|⟨p,r,g,ob⟩<;>rfl
      |[],_=>rfl
      |[_],_=>rfl
      |_::_::_::_,_=>rfl
      |[_,_],[]=>rfl
      |[_,_],[_]=>rfl
      |[_,_],_::_::_::_=>rfl
     case value f=>
      simp only [mF,kC];cases evA (ll (yas (dl.map (base+ ·)) H) (cr ex fr)) f<;>first|rfl|(simp only [eq_iff_iff];exact ⟨fun h=>⟨h.1,h.2.1,h.2.2.1,⟨h.2.2.2⟩⟩,fun h=>⟨h.1,h.2.1,h.2.2.1,h.2.2.2.out⟩⟩)
   ·rfl
  ·rfl
def jT (c b:Bool) (o:Oper) (r:List Oper) (ex:List Nat) (bI:List (List Nat)) (dl:List Nat) (bJ:List (List Nat)):Prop:=(c=b->awDn P N ops base j fr H K o r ex bI dl bJ)/\(c= !b->dok o.dst N=true/\awD P N ops base (j+1) r bI bJ (fput fr o.dst (.tup [])) H K)
section
variable (o:Oper) (r:List Oper) (ex:List Nat) (bI:List (List Nat)) (dl:List Nat) (bJ:List (List Nat))
theorem yacw:jT P N ops base j fr H K true true o r ex bI dl bJ=awDn P N ops base j fr H K o r ex bI dl bJ:=by simp [jT]
theorem yacx:jT P N ops base j fr H K false false o r ex bI dl bJ=awDn P N ops base j fr H K o r ex bI dl bJ:=by simp [jT]
theorem yacy:jT P N ops base j fr H K true false o r ex bI dl bJ=(dok o.dst N=true/\awD P N ops base (j+1) r bI bJ (fput fr o.dst (.tup [])) H K):=by simp [jT]
theorem yacz:jT P N ops base j fr H K false true o r ex bI dl bJ=(dok o.dst N=true/\awD P N ops base (j+1) r bI bJ (fput fr o.dst (.tup [])) H K):=by simp [jT]
end
def kG (b:Bool) (o:Oper) (r:List Oper) (ex:List Nat) (bI:List (List Nat)) (dl:List Nat) (bJ:List (List Nat)) (c:Bool):Prop:=jT P N ops base j fr H K c b o r ex bI dl bJ
def kZ (o:Oper) (r:List Oper) (bI bJ:List (List Nat)) (_:Unit):Prop:=dok o.dst N=true/\awD P N ops base (j+1) r bI bJ (fput fr o.dst (.tup [])) H K
theorem kZ_eq (o:Oper) (r:List Oper) (bI bJ:List (List Nat)) (u:Unit):kZ P N ops base j fr H K o r bI bJ u=(dok o.dst N=true/\awD P N ops base (j+1) r bI bJ (fput fr o.dst (.tup [])) H K):=rfl
def awDg (o:Oper) (r:List Oper) (ex:List Nat) (bI:List (List Nat)) (dl:List Nat) (bJ:List (List Nat)):Prop:=match o.guard with
 |none=>awDn P N ops base j fr H K o r ex bI dl bJ
 |some (g,b)=>mG (gval ops (cr ex fr) g) (kG P N ops base j fr H K b o r ex bI dl bJ) (kZ P N ops base j fr H K o r bI bJ)
theorem kQ_eq (o:Oper) (r:List Oper) (bI bJ:List (List Nat)) (p:Prop) (x:AV):kQ P N ops base j fr H K o r bI bJ p x=(p/\awD P N ops base (j+1) r bI bJ (fput fr o.dst x) H K):=rfl
theorem kR_eq (o:Oper) (r:List Oper) (bI:List (List Nat)) (dl:List Nat) (bJ:List (List Nat)) (p:Prop) (x:AV):kR P N ops base j fr H K o r bI dl bJ p x=((yas (dl.map (base+ ·)) H).all (fun q=>sO (yas (dl.map (base+ ·)) H) q.2)=true/\p/\awD P N ops base (j+1) r bI bJ (fput fr o.dst x) H K):=rfl
theorem kA_eq (o:Oper) (r:List Oper) (bI bJ:List (List Nat)) (p:Prop) (x:AV) (y:AObj):kA P N ops base j fr H K o r bI bJ p (x,y)=(p/\awD P N ops base (j+1) r bI bJ (fput fr o.dst x) ((base+j,y)::H) K):=rfl
theorem kS_eq (o:Oper) (r:List Oper) (bI bJ:List (List Nat)) (p:Prop) (x:Nat) (y:AObj):kS P N ops base j fr H K o r bI bJ p (x,y)=(p/\awD P N ops base (j+1) r bI bJ (fput fr o.dst .any) (hset H x y) K):=rfl
theorem kI_eq (o:Oper) (r:List Oper) (bI bJ:List (List Nat)) (p:Prop) x y z:kI P N ops base j fr H K o r bI bJ p (x,y,z)=(p/\awD P N ops base (j+1) r bI bJ (fput fr o.dst .any) (insE H x y z) K):=rfl
theorem kP_eq (o:Oper) (r:List Oper) (bI bJ:List (List Nat)) (p:Prop) x y z:kP P N ops base j fr H K o r bI bJ p (x,y,z)=(p/\awD P N ops base (j+1) r bI bJ (fput fr o.dst x) ((base+j,z)::hgo H y) K):=rfl
theorem kC_eq (o:Oper) (r:List Oper) (bI:List (List Nat)) (dl:List Nat) (bJ:List (List Nat)) (xs:List AV) (g:Nat) (cap:List AV):kC P N ops base j fr H K o r bI dl bJ xs g cap=((yas (dl.map (base+ ·)) H).all (fun q=>sO (yas (dl.map (base+ ·)) H) q.2)=true/\yR P N ops base j fr H K o.dst (yas (dl.map (base+ ·)) H) r bI bJ g (xs++cap)):=rfl
theorem kG_eq (b:Bool) (o:Oper) (r:List Oper) (ex:List Nat) (bI:List (List Nat)) (dl:List Nat) (bJ:List (List Nat)) (c:Bool):kG P N ops base j fr H K b o r ex bI dl bJ c=(jT P N ops base j fr H K c b o r ex bI dl bJ):=rfl
theorem yac0 (e d:List (List Nat)):awD P N ops base j [] e d fr H K=K fr H:=by simp only [awD]
theorem y83 (o:Oper) (r:List Oper) (ex:List Nat) (bI:List (List Nat)) (dl:List Nat) (bJ:List (List Nat)):awD P N ops base j (o::r) (ex::bI) (dl::bJ) fr H K=awDg P N ops base j fr H K o r ex bI dl bJ:=by
 unfold awDg mG kG jT kZ;simp only [awD];rcases o.guard with _|⟨g,b⟩
 ·exact Rl P N ops base j fr H K o r ex bI dl bJ
 ·simp only;rcases gval ops (cr ex fr) g with _|_|_|_|_|(_|_)|_|_|_|_|_|_|_<;>first|rfl|(simp only [oQ,Rl])
end
theorem ah {P:Program} {N:Nat} {ops:Array Oper} {base j:Nat} {fr:Fr} {H:Hp} {K:Fr->Hp->Prop} {c b:Bool} {o:Oper} {r:List Oper} {ex:List Nat} {bI:List (List Nat)} {dl:List Nat} {bJ:List (List Nat)} (h1:c=b->awDn P N ops base j fr H K o r ex bI dl bJ) (h2:c= !b->dok o.dst N=true/\awD P N ops base (j+1) r bI bJ (fput fr o.dst (.tup [])) H K):jT P N ops base j fr H K c b o r ex bI dl bJ:=⟨h1,h2⟩
section
variable {P:Program} {N base j:Nat} {fr fr':Fr} {H H':Hp}
theorem y35 {ops:Array Oper} {r:List Oper} {e d:List (List Nat)} {j':Nat} {K:Fr->Hp->Prop} (h0:j=j') (h1:fr=fr') (h2:H=H'):awD P N ops base j r e d fr H K=awD P N ops base j' r e d fr' H' K:=by rw [h0,h1,h2]
end
def scV (H:Hp) (x:AV):AV:=if s3 H x then x else .any
def QN (b:Bool) (x:AV):AV:=if b then .any else x
theorem yac1 (H:Hp) (fr:Fr) (t:Nat):fget (ll H fr) t=scV H (fget fr t):=by
 induction fr with
 |nil=>rfl
 |cons p r ih=>
  obtain ⟨s,x⟩:=p;simp only [ll,fget];by_cases h:s=t
  ·simp [h,scV]
  ·simp only [h,if_false];exact ih
theorem yac2 (ex:List Nat) (fr:Fr) (t:Nat):fget (cr ex fr) t=QN (ex.contains t) (fget fr t):=by rw [Le];rfl
theorem erV_t (x:AV):QN true x= .any:=rfl
theorem erV_f (x:AV):QN false x=x:=rfl
attribute [congr] y35
attribute [go_sem] kZ_eq kQ_eq kR_eq kA_eq kS_eq kI_eq kP_eq kC_eq kG_eq sepF sep2 sepV bne_self_eq_false inF inK inO insE insO yfl awDX awDn yacw yacx yacy yacz awDg yac0 y83
attribute [go_sem] y10 yac1 yac2 erV_t erV_f scV apG apG.n2E hgo yas ydi loud List.contains_cons List.contains_nil beq_self_eq_true
attribute [go_sem] AObj.cells.injEq Cs.ints.injEq Cs.bools.injEq Cs.lst.injEq AV.int.injEq AV.sl.injEq AV.ro.injEq AV.ptr.injEq AV.agg.injEq AV.tup.injEq AV.str.injEq AV.rp.injEq AV.fn.injEq Prod.mk.injEq List.cons.injEq Int.natCast_add Int.natCast_one Int.natCast_zero Int.natCast_mul Nat.succ_eq_add_one List.length_append List.length_drop List.length_take
structure aR (x y:AV):Prop where
 out: ∀(w:World) (M:Nat->Prop) (ρ:Nat->Addr) (D:Nat->Prop) (v:Value),VR w M ρ D v x->VR w M ρ D v y
theorem aR.refl (x:AV):aR x x:=⟨fun _ _ _ _ _ h=>h⟩
theorem aR.of {x y:AV} (h:x=y):aR x y:=h▸aR.refl x
theorem aR.nils {es:Nat} {c:Cs} (he:0<es) (hc:c.len=0):aR .nils (.ro es 0 c):=⟨fun w M ρ D v h=>by
 have e:=h.b9;subst e;exact .ro es 0 c none 0 (fun _=>undef) (by simp [hc]) (Nat.le_refl _) he (fun h=>by omega) (fun j hj=>by omega)⟩
theorem aR.agg {xs ys:List AV} (hl:xs.length=ys.length) (h: ∀(i:Nat) (x y:AV),xs[i]?=some x->ys[i]?=some y->aR x y):aR (.agg xs) (.agg ys):=⟨fun w M ρ D v hv=>by
 obtain ⟨vs,rfl,rP,hx⟩:=hv.bp;refine .agg vs ys (rP.trans hl) fun i v y hi hy=>?_;have aG:i<xs.length:=by
  have:=List.getElem?_eq_some_iff.1 hi;obtain ⟨h1,_⟩:=this;omega
 exact (h i xs[i] y (List.getElem?_eq_getElem aG) hy).out w M ρ D v (hx i v _ hi (List.getElem?_eq_getElem aG))⟩
theorem aR.tup {xs ys:List AV} (hl:xs.length=ys.length) (h: ∀(i:Nat) (x y:AV),xs[i]?=some x->ys[i]?=some y->aR x y):aR (.tup xs) (.tup ys):=⟨fun w M ρ D v hv=>by
 obtain ⟨vs,rfl,rP,hx⟩:=hv.dY;refine .tup vs ys (rP.trans hl) fun i v y hi hy=>?_;have aG:i<xs.length:=by
  have:=List.getElem?_eq_some_iff.1 hi;obtain ⟨h1,_⟩:=this;omega
 exact (h i xs[i] y (List.getElem?_eq_getElem aG) hy).out w M ρ D v (hx i v _ hi (List.getElem?_eq_getElem aG))⟩
inductive vF:List AV->List AV->Prop where
 |nil:vF [] []
 |cons {x y:AV} {xs ys:List AV}:aR x y->vF xs ys->vF (x::xs) (y::ys)
theorem vF.len {xs ys:List AV} (h:vF xs ys):xs.length=ys.length:=by
 induction h with
 |nil=>rfl
 |cons _ _ ih=>simp [ih]
theorem vF.get {xs ys:List AV} (h:vF xs ys): ∀(i:Nat) (x y:AV),xs[i]?=some x->ys[i]?=some y->aR x y:=by
 induction h with
 |nil=>intro i x y h;cases h
 |cons h1 _ ih=>
  intro i x y hx hy;cases i with
  |zero=>simp only [List.getElem?_cons_zero,Option.some.injEq] at hx hy;subst hx hy;exact h1
  |succ i=>exact ih i x y (by simpa using hx) (by simpa using hy)
theorem aR.js {xs ys:List AV} (h:vF xs ys):aR (.agg xs) (.agg ys):= .agg h.len h.get
theorem aR.zx {xs ys:List AV} (h:vF xs ys):aR (.tup xs) (.tup ys):= .tup h.len h.get
section
variable {P:Program} {f:Nat} {args:List AV} {r r':AV}
theorem Fn.arg (h:Fn P f args r) {args':List AV} (ha:vF args' args):Fn P f args' r:=
 ⟨h.1,fun w Mx vs h1 h2 h3=>h.2 w Mx vs h1 (h2.trans ha.len) fun i v x hv hx=>by
  have aG:i<args'.length:=by
   have:=List.getElem?_eq_some_iff.1 hv;obtain ⟨g1,_⟩:=this;omega
  exact (ha.get i args'[i] x (List.getElem?_eq_getElem aG) hx).out _ _ _ _ v (h3 i v _ hv (List.getElem?_eq_getElem aG))⟩
def retL (P:Program) (rs:List ResultVar) (r:AV) (e:Exit) (fr:Fr) (H:Hp):Prop:=
 (e= .ret\/e= .normal)/\match resL P fr H rs with
 |some (p,l)=>p/\dr H 6 (yg9 l)/\aR (snap H 6 (yg9 l)) r
 |none=>False
theorem Fn.aq {fn:Func} {c:Code} (rs:List ResultVar) (hf:P.funcs[f]?=some fn) (hb:fn.body=some c) (zQ:fn.results.toList=rs) (hn:(fn.name== "runtime.NumGoroutine")=false) (hl:args.length<=fn.ntmps/\fn.ntmps<=1000000)
  (h:jt P fn.ntmps c (frOf 0 args) [] (retL P rs r)):Fn P f args r:=by
 subst zQ;refine ⟨⟨fn,hf,by rw [hb];rfl,hn⟩,fun w Mx vs fY vk hv=>?_⟩
 have oA:aK w.heap.size ⟨w,fun _=>undef⟩ Mx 0 w ρ0 [] [] {tmps:= #[],defers:=[]}:=
  ⟨Below.refl _ _,Nat.le_refl _,fY.2,(fun id o h=>by cases h),(fun id o h=>by cases h),(fun id o _ _ h=>by cases h),fun t=> .any _,⟨rfl,fun _ hb=>fY.1.later hb⟩,by simp,by omega⟩
 have Qt:MM Mx [] ρ0=Mx:=by
  funext x;apply propext;constructor
  ·rintro (g|⟨id,o,g,_⟩)
   ·exact g
   ·cases g
  ·exact Or.inl
 have Fj:fM P f args [] [] (fun r' _ H'=>dr H' 6 r'/\aR (snap H' 6 r') r):=by
  refine ⟨fn,c,hf,hb,hn,hl,?_⟩;rw [show frOf 0 args++lft []=frOf 0 args by simp [lft]];refine h.mono fun e fr H hq=>⟨hq.1,?_⟩;have pU:=hq.2;revert pU;cases resL P fr H fn.results.toList with
  |none=>exact fun h=>h
  |some q=>exact fun h=>h
 obtain ⟨_,dQ⟩:=HP (P:=P) oA Fj vk (fun i v x g1 g2=>by rw [Qt];exact (hv i v x g1 g2).D0);refine dQ.mono ?_;rintro e w' ⟨v,r',ρ',fr',H',rfl,⟨hp,hle⟩,hs,sL⟩;exact ⟨v,rfl,hs.below,hle.out _ _ _ _ v (G9 hs (My:=Mx) (ρ0:=ρ0) (fun _ h=>h) 6 v r' sL hp)⟩
end
attribute [go_sem] retL
end Go.Proofs.YtphjphpmfflfpaaGreatDoor
