/- The author's own program logic: statements that draw their order; results told less exactly. -/
import Derived.Test.YtphjphpmfflfpaaGreatDoorGb
set_option linter.unusedSimpArgs false
set_option linter.unusedVariables false
namespace Go.Proofs.YtphjphpmfflfpaaGreatDoor
open Go Go.RowKit
section
variable {P:Program} {B:Nat} {w0:ik} {Mx:Nat->Prop} {N:Nat} {w:World} {ρ:Nat->Addr} {fr:Fr} {H:Hp} {a:Act}
theorem aC.BE (h:aC B w0 Mx N w ρ fr H a) {aF:Nat} (hn:hget H aF=none) {w1:ik} {w':World} {ρ':Nat->Addr} {N0:Nat} {a0:Act} {M0:Nat->Prop} {t:Nat} {l:List Int} (mU:w1.w=w) (k:aC w.heap.size w1 M0 N0 w' ρ' [] [(0, .cells t (.ints l))] a0):
  aC B w0 Mx N w' (cI ρ aF (ρ' 0)) fr ((aF, .cells t (.ints l))::H) a/\ ∀v es n,VR w' (MM M0 [(0, .cells t (.ints l))] ρ') ρ' (DD [(0, .cells t (.ints l))]) v (.sl es 0 0 n)->VR w' (MM Mx ((aF, .cells t (.ints l))::H) (cI ρ aF (ρ' 0))) (cI ρ aF (ρ' 0)) (DD ((aF, .cells t (.ints l))::H)) v (.sl es aF 0 n):=by
 have cQ:=k.below;rw [mU] at cQ;have xG:w.heap.size<=(ρ' 0).block:=(k.own 0 _ rfl rfl).1;have e0:cI ρ aF (ρ' 0) aF=ρ' 0:=by simp [cI]
 have e1: ∀i,i≠aF->cI ρ aF (ρ' 0) i=ρ i:=fun i hi=>by simp [cI,hi]
 have cs: ∀i o,hget ((aF, .cells t (.ints l))::H) i=some o->(i=aF/\o= .cells t (.ints l))\/(i≠aF/\hget H i=some o):=fun i o ho=>by
  simp only [hget] at ho;by_cases e:aF=i
  ·rw [if_pos e] at ho;exact .inl ⟨e.symm,(Option.some.inj ho).symm⟩
  ·rw [if_neg e] at ho;exact .inr ⟨fun e'=>e e'.symm,ho⟩
 have aA: ∀i o,hget H i=some o->i≠aF:=fun i o ho e=>by rw [e,hn] at ho;cases ho
 have fL: ∀i o,hget H i=some o->hget ((aF, .cells t (.ints l))::H) i=some o:=fun i o ho=>by
  simp only [hget];rw [if_neg (fun e=>aA i o ho e.symm)];exact ho
 have YR: ∀x,x<w.heap.size->MM Mx ((aF, .cells t (.ints l))::H) (cI ρ aF (ρ' 0)) x->MM Mx H ρ x:=fun x hx hm=>by
  rcases hm with g|⟨i,o,g1,g2,g3⟩
  ·exact .inl g
  ·rcases cs i o g1 with ⟨rfl,rfl⟩|⟨q1,q2⟩
   ·rw [e0] at g3;omega
   ·rw [e1 i q1] at g3;exact .inr ⟨i,o,q2,g2,g3⟩
 have hold: ∀{v:Value} {x:AV},VR w (MM Mx H ρ) ρ (DD H) v x->VR w' (MM Mx ((aF, .cells t (.ints l))::H) (cI ρ aF (ρ' 0))) (cI ρ aF (ρ' 0)) (DD ((aF, .cells t (.ints l))::H)) v x:=fun hv=>by
  refine hv.carry cQ.size (fun x hx hm=>⟨cQ.block x hx,fun g=>hm (YR x hx g)⟩) (fun i hd=>?_);obtain ⟨o,ho⟩:=hd;exact ⟨⟨o,fL i o ho⟩,e1 i (aA i o ho),fun arr t ha=>⟨arr,(cQ.block _ (eI ha)).trans ha,rfl⟩⟩
 have ng:=k.objs 0 _ rfl;obtain ⟨f1,arr,f2,f3,f4⟩:=ng;refine ⟨⟨h.below.trans (cQ.mono h.hB),Nat.le_trans h.hB cQ.size,fun x hx=>Nat.lt_of_lt_of_le (h.mx x hx) cQ.size,fun i o g1 g2=>?_,fun i o g1=>?_,fun i o i' o' g1 g2 g3 g4 g5=>?_,fun t=>hold (h.frv t),h.defers,h.size⟩,fun v es n hv=>?_⟩
 ·rcases cs i o g1 with ⟨rfl,rfl⟩|⟨q1,q2⟩
  ·rw [e0];exact ⟨Nat.le_trans h.hB xG,fun hx=>by have:=h.mx _ hx;omega⟩
  ·rw [e1 i q1];exact h.own i o q2 g2
 ·rcases cs i o g1 with ⟨rfl,rfl⟩|⟨q1,q2⟩
  ·exact ⟨by rw [e0];exact f1,arr,by rw [e0];exact f2,by rw [e0];exact f3,fun j hj=>let ⟨u,hu,hx⟩:=f4 j hj;⟨u,by rw [e0];exact hu,by obtain rfl:=VR.aq (show VR _ _ _ _ u (I (l.getD j 0)) from hx);exact .int _ _⟩⟩
  ·have hr:=h.objs i o q2;cases o with
   |gone=>trivial
   |cells t c=>
    obtain ⟨f1,arr,f2,f3,f4⟩:=hr;exact ⟨by rw [e1 i q1];exact f1,arr,by rw [e1 i q1];exact (cQ.block _ (eI f2)).trans f2,by rw [e1 i q1];exact f3,fun j hj=>let ⟨u,hu,hx⟩:=f4 j hj;⟨u,by rw [e1 i q1];exact hu,hold hx⟩⟩
   |gmap t ck l=>
    obtain ⟨es,k1,k2,k3⟩:=hr;exact ⟨es,by rw [e1 i q1];exact (cQ.block _ (eI k1)).trans k1,k2,fun j e q he hl=>let ⟨g1,g2,g3⟩:=k3 j e q he hl;⟨g1,g2,hold g3⟩⟩
   |iter mid s sn la=>
    obtain ⟨k1,k2,k3⟩:=hr;obtain ⟨om,pQ⟩:=k1;exact ⟨⟨om,fL mid om pQ⟩,by rw [e1 i q1];exact k2,by rw [e1 i q1,e1 mid (aA mid om pQ)];exact (cQ.block _ (eI k3)).trans k3⟩
   |imap t l=>
    obtain ⟨k0,es,ck,k1,k2,k3⟩:=hr;exact ⟨k0,es,ck,by rw [e1 i q1];exact (cQ.block _ (eI k1)).trans k1,k2,fun j e k x he hl=>let ⟨g1,g2,g3⟩:=k3 j e k x he hl;⟨g1,hold g2,g3⟩⟩
   |fmap t c=>
    obtain ⟨k0,es,ck,k1,k2⟩:=hr;exact ⟨k0,es,ck,by rw [e1 i q1];exact (cQ.block _ (eI k1)).trans k1,k2⟩
 ·have fresh: ∀i o,hget H i=some o->o.live=true->(ρ i).block<w.heap.size:=fun i o g1 g2=>by
   exact h.jH _ (.inr ⟨i,o,g1,g2,rfl⟩)
  rcases cs i o g1 with ⟨rfl,rfl⟩|⟨q1,q2⟩
  ·rcases cs i' o' g3 with ⟨rfl,rfl⟩|⟨r1,r2⟩
   ·rfl
   ·rw [e0,e1 i' r1] at g5;have:=fresh i' o' r2 g4;omega
  ·rcases cs i' o' g3 with ⟨rfl,rfl⟩|⟨r1,r2⟩
   ·rw [e0,e1 i q1] at g5;have:=fresh i o q2 g2;omega
   ·rw [e1 i q1,e1 i' r1] at g5;exact h.inj i o i' o' q2 g2 r2 g4 g5
 ·cases hv with
  |sl _ _ _ _ cap hd hc arr t2 ad ha hb hr=>
   refine .sl es aF 0 n cap ⟨.cells t (.ints l),by simp [hget]⟩ hc arr t2 ad ?_ ?_ ?_
   ·rw [e0];exact ha
   ·rw [e0];exact hb
   ·rw [e0];exact hr
theorem TG (h:aC B w0 Mx N w ρ fr H a) {f:Nat} {xs:List AV} {aF:Nat} {K:AV->AObj->Prop} (hc:F0 P f xs H aF K) {vs:List Value} (hl:vs.length=xs.length)
  (hv: ∀(i:Nat) (v:Value) (x:AV),vs[i]?=some v->xs[i]?=some x->VR w (MM Mx H ρ) ρ (DD H) v x):
  lX P f/\Calls P f vs.toArray w fun e w'=> ∃v es n t l ρ' M0,e= .returned v/\K (.sl es aF 0 n) (.cells t (.ints l))/\aC w.heap.size ⟨w,fun _=>undef⟩ M0 0 w' ρ' [] [(0, .cells t (.ints l))] {tmps:= #[],defers:=[]}/\VR w' (MM M0 [(0, .cells t (.ints l))] ρ') ρ' (DD [(0, .cells t (.ints l))]) v (.sl es 0 0 n):=by
 obtain ⟨es,n,t,l,nI,hk⟩:=hc;rcases nI with ⟨hp,ct,hfn⟩|⟨hs,ct,hfn⟩
 ·refine ⟨ct,(hfn w (MM Mx H ρ) vs ⟨h.oq,h.jH⟩ hl fun i v x h1 h2=>(hv i v x h1 h2).kM (List.all_eq_true.1 hp _ (List.mem_of_getElem? h2))).mono ?_⟩;rintro e w' ⟨v,ρ',rfl,bD,hr⟩;exact ⟨v,es,n,t,l,ρ',_,rfl,hk,bD,hr⟩
 ·have te: ∀(i:Nat) (v:Value) (x:AV),vs[i]?=some v->(xs.map (snap H 6))[i]?=some x->VR w (fun _=>False) ρ0 (fun _=>False) v x:=fun i v x h1 h2=>by
   simp only [List.getElem?_map] at h2;obtain ⟨x',g1,rfl⟩:=Option.map_eq_some_iff.1 h2;exact Eo h (fun _ h=>h.elim) 6 v x' (hv i v x' h1 g1) (hs _ (List.mem_of_getElem? g1))
  refine ⟨ct,(hfn w (fun _=>False) vs ⟨h.oq,fun _ h=>h.elim⟩ (by simpa using hl) te).mono ?_⟩;rintro e w' ⟨v,ρ',rfl,bD,hr⟩;exact ⟨v,es,n,t,l,ρ',_,rfl,hk,bD,hr⟩
end
theorem OH {ops:Array Oper} {es:Nat->Ent}: ∀(d j:Nat) (fr:Fr),mv ops es j fr (d+1)=fput (mv ops es j fr d) (eX ops (j+d)) (es (j+d)).val
 |0,j,fr=>rfl
 |d+1,j,fr=>by
  have:=OH (ops:=ops) (es:=es) d (j+1) (fput fr (eX ops j) (es j).val)
  simp only [mv] at this⊢;rw [this,show j+1+d=j+(d+1) by omega]
theorem Nx {base:Nat} {es:Nat->Ent}: ∀(d j:Nat) (H:Hp),hI base es j H (d+1)=(es (j+d)).eff (base+(j+d)) (hI base es j H d)
 |0,j,H=>rfl
 |d+1,j,H=>by
  have:=Nx (base:=base) (es:=es) d (j+1) ((es j).eff (base+j) H)
  simp only [hI] at this⊢;rw [this,show j+1+d=j+(d+1) by omega]
theorem Am {ops:Array Oper} {es:Nat->Ent} (fr:Fr): ∀k,mv ops es 0 fr k=frS ops es fr (fun _=>true) k
 |0=>rfl
 |k+1=>by rw [OH,Am fr k];simp [frS]
theorem zN {base:Nat} {es:Nat->Ent} (H:Hp): ∀k,hI base es 0 H k=hS base es H (fun _=>true) k
 |0=>rfl
 |k+1=>by rw [Nx,zN H k];simp [hS]
def yp (ops:Array Oper) (E:Nat->Bool):Prop:= ∀j,E j=true-> ∀i∈nv (ops.getD j default),E i=true
theorem Nw {ops:Array Oper}: ∀(l:List Oper) (fK:List (List Nat)),l=ops.toList.drop fK.length->(∀k i,i∈fK.getD k []-> ∀E,yp ops E->(∀e∈nv (ops.getD k default),E e=true)->E i=true)->
  ∀k i,i∈(ancs l fK).getD k []-> ∀E,yp ops E->(∀e∈nv (ops.getD k default),E e=true)->E i=true
 |[],fK,_,h=>h
 |o::l,fK,hl,h=>by
  simp only [ancs];have aA:fK.length<ops.size:=by
   have:=congrArg List.length hl;simp at this;omega
  have ho:o=ops.getD fK.length default:=by
   have:=congrArg (fun x=>x[0]?) hl
   simp [aA] at this;simpa [aA] using this
  refine Nw l _ ?_ ?_
  ·have:=congrArg List.tail hl
   simp only [List.tail_cons,List.tail_drop] at this;rw [this];simp
  ·intro k i hi E hE hk;by_cases fv:k<fK.length
   ·have e:(fK++[((nv o).flatMap fun i=>i::fK.getD i []).eraseDups]).getD k []=fK.getD k []:=by
     simp [List.getElem?_append_left fv]
    rw [e] at hi;exact h k i hi E hE hk
   ·by_cases Yd:k=fK.length
    ·subst Yd;have e:(fK++[((nv o).flatMap fun i=>i::fK.getD i []).eraseDups]).getD fK.length []=((nv o).flatMap fun i=>i::fK.getD i []).eraseDups:=by simp
     rw [e,List.mem_eraseDups,List.mem_flatMap] at hi;obtain ⟨x,hx,zb⟩:=hi;rw [ho] at hx;have SH:=hk x hx;rcases List.mem_cons.1 zb with rfl|zb
     ·exact SH
     ·exact h x i zb E hE (hE x SH)
    ·have e:(fK++[((nv o).flatMap fun i=>i::fK.getD i []).eraseDups]).getD k []=[]:=by
      rw [List.getD_eq_getElem?_getD,List.getElem?_eq_none (by simp;omega)];rfl
     rw [e] at hi;cases hi
theorem Gu {ops:Array Oper} {E:Nat->Bool} (hE:yp ops E) {k i:Nat} (hi:((ij ops).getD k []).contains i=true) (hk: ∀e∈nv (ops.getD k default),E e=true):E i=true:=
 Nw ops.toList [] (by simp) (fun k i h=>by simp at h) k i (List.contains_iff_mem.1 hi) E hE hk
structure Mi (ops:Array Oper) (ex dl:List (List Nat)):Prop where
 slot: ∀i j,i<ops.size->j<ops.size->i≠j->((ij ops).getD j []).contains i=true\/((ij ops).getD i []).contains j=true\/ ∀d,eX ops i=some d->(ex.getD j []).contains d=true
 new: ∀i j,i<ops.size->j<ops.size->i<j->((ij ops).getD j []).contains i=true\/(dl.getD j []).contains i=true
 lo: ∀i j,i<ops.size->j<ops.size->i≠j->yc0 (ops.getD i default).op=false->loud (ops.getD i default).op=false->loud (ops.getD j default).op=true->((ij ops).getD j []).contains i=true
 lolo: ∀i j,i<ops.size->j<ops.size->i≠j->loud (ops.getD i default).op=true->loud (ops.getD j default).op=true->((ij ops).getD j []).contains i=true\/((ij ops).getD i []).contains j=true\/(yer (ops.getD i default).op=true/\yer (ops.getD j default).op=true)\/sK ops (ops.getD i default).op (ops.getD j default).op=true
 ins: ∀i j,i<ops.size->j<ops.size->i≠j->yer (ops.getD i default).op=true->loud (ops.getD j default).op=true->yer (ops.getD j default).op=true
 same: ∀i j,i<ops.size->j<ops.size->i≠j-> ∀d,eX ops i=some d->eX ops j=some d->((ij ops).getD j []).contains i=true\/((ij ops).getD i []).contains j=true
 lt: ∀i j,i<ops.size->j<ops.size->((ij ops).getD j []).contains i=true->i<j
 elt: ∀j,j<ops.size-> ∀e∈nv (ops.getD j default),e<j
theorem Ro {ops:Array Oper} {ex dl:List (List Nat)} (h:Dc ops ex dl=true):Mi ops ex dl:=by
 have h0: ∀i j,i<ops.size->j<ops.size->_:=fun i j hi hj=>List.all_eq_true.1 (List.all_eq_true.1 h j (by simpa using hj)) i (by simpa using hi);simp only [Bool.and_eq_true,Bool.or_eq_true,beq_iff_eq,Bool.not_eq_true',decide_eq_true_eq,decide_eq_false_iff_not,bne_iff_ne,Dc.before0,List.all_eq_true] at h0
 refine ⟨fun i j hi hj aw=>?_,fun i j hi hj aA=>?_,fun i j hi hj aw h1 h2 h3=>?_,fun i j hi hj aw h1 h2=>?_,fun i j hi hj aw h1 h2=>?_,fun i j hi hj aw d h1 h2=>?_,fun i j hi hj h1=>?_,fun j hj e he=>?_⟩
 ·have:=h0 i j hi hj
  rcases this.1.1 with g|g
  ·exact absurd g aw
  ·rcases g.1.1.1.1.1 with (g1|g1)|g1
   ·exact .inl g1
   ·exact .inr (.inl g1)
   ·refine .inr (.inr fun d hd=>?_);unfold eX at hd;rw [hd] at g1;exact g1
 ·have:=h0 i j hi hj
  rcases this.1.1 with g|g
  ·omega
  ·rcases g.1.1.1.1.2 with (g1|g1)|g1
   ·exact .inl g1
   ·omega
   ·exact .inr g1
 ·have:=h0 i j hi hj
  rcases this.1.1 with g|g
  ·exact absurd g aw
  ·rcases g.1.1.1.2 with ((g1|g1)|g1)|g1
   ·rw [h1] at g1;cases g1
   ·rw [h3] at g1;cases g1
   ·exact g1
   ·rw [h2] at g1;cases g1
 ·have:=h0 i j hi hj
  rcases this.1.1 with g|g
  ·exact absurd g aw
  ·rcases g.1.1.2 with ((((g1|g1)|g1)|g1)|g1)|g1
   ·rw [h1] at g1;cases g1
   ·rw [h2] at g1;cases g1
   ·exact .inl g1
   ·exact .inr (.inl g1)
   ·exact .inr (.inr (.inl g1))
   ·exact .inr (.inr (.inr g1))
 ·have:=h0 i j hi hj
  rcases this.1.1 with g|g
  ·exact absurd g aw
  ·rcases g.1.2 with (g1|g1)|g1
   ·rw [h1] at g1;cases g1
   ·rw [h2] at g1;cases g1
   ·exact g1
 ·have:=h0 i j hi hj
  unfold eX at h1 h2;rcases this.1.1 with g|g
  ·exact absurd g aw
  ·rcases g.2 with ((g1|g1)|g1)|g1
   ·exact .inl g1
   ·exact .inr g1
   ·rw [h1,h2] at g1;exact absurd rfl g1
   ·rw [h1] at g1;cases g1
 ·have:=h0 i j hi hj
  rcases this.1.2 with g|g
  ·rw [h1] at g;cases g
  ·exact g
 ·exact (h0 j j hj hj).2 e he
def cntE (E:Nat->Bool):Nat->Nat
 |0=>0
 |k+1=>cntE E k+if E k then 1 else 0
theorem Nv (E:Nat->Bool): ∀k,cntE E k<=k
 |0=>Nat.le_refl _
 |k+1=>by have:=Nv E k;simp only [cntE];split<;>omega
theorem OG {E:Nat->Bool}: ∀k,cntE E k=k-> ∀i,i<k->E i=true
 |0,_,i,hi=>by omega
 |k+1,h,i,hi=>by
  have hk:=Nv E k;simp only [cntE] at h;by_cases hE:E k=true
  ·rw [if_pos hE] at h;by_cases e:i=k
   ·rw [e];exact hE
   ·exact OG k (by omega) i (by omega)
  ·rw [if_neg hE] at h;omega
theorem OE {E E':Nat->Bool} {j:Nat} (h0:E j=false) (h1:E' j=true) (h: ∀i,i≠j->E' i=E i): ∀k,cntE E' k=cntE E k+if j<k then 1 else 0
 |0=>by simp [cntE]
 |k+1=>by
  have ih:=OE h0 h1 h k;simp only [cntE,ih];by_cases e:k=j
  ·subst e;simp [h0,h1]
  ·rw [h k e];generalize (if E k=true then 1 else 0)=z;by_cases oa:j<k
   ·rw [if_pos oa,if_pos (show j<k+1 by omega)];omega
   ·rw [if_neg oa,if_neg (show¬j<k+1 by omega)];omega
theorem vi (n k:Nat):(Array.replicate n false).getD k false=false:=by by_cases hk:k<n<;>simp [hk]
section
variable {P:Program} {B:Nat} {w0:ik} {Mx:Nat->Prop} {N:Nat} {ops:Array Oper} {base:Nat} {ex dl:List (List Nat)} {es:Nat->Ent} {fr0:Fr} {H0:Hp}
theorem U7 {E E':Nat->Bool} {j n:Nat} (hj:j<n) (h1:E' j=true) (h: ∀i,i≠j->E' i=E i) (gM: ∀i,j<i->i<n->E i=true-> ∀d,eX ops i=some d->eX ops j≠some d) (t:Nat):
  fget (frS ops es fr0 E' n) t=fget (fput (frS ops es fr0 E n) (eX ops j) (es j).val) t:=by
 by_cases hd:eX ops j=some t
 ·have e2:fget (fput (frS ops es fr0 E n) (eX ops j) (es j).val) t=(es j).val:=by rw [hd];simp [fput,fget]
  rw [e2]
  have: ∀k,j<k->k<=n->fget (frS ops es fr0 E' k) t=(es j).val:=by
   intro k
   induction k with
   |zero=>intro h;omega
   |succ k ih=>
    intro hk uw;simp only [frS];by_cases e:k=j
    ·subst e;rw [if_pos h1,hd];simp [fput,fget]
    ·have Km:=ih (by omega) (by omega)
     split
     ·rename_i hE
      rw [h k e] at hE;have aw:=gM k (by omega) (by omega) hE;cases Co:eX ops k with
      |none=>exact Km
      |some d=>
       have:d≠t:=fun e'=>aw d Co (by rw [hd,e'])
       simp only [fput,fget,this,if_false];exact Km
     ·exact Km
  exact this n hj (Nat.le_refl _)
 ·have e2:fget (fput (frS ops es fr0 E n) (eX ops j) (es j).val) t=fget (frS ops es fr0 E n) t:=by
   cases hk:eX ops j with
   |none=>rfl
   |some d=>simp only [fput,fget];rw [if_neg (fun e=>hd (by rw [hk,e]))]
  rw [e2];exact EL n fun i _ hi=>h i (fun e=>hd (by rw [←e];exact hi))
theorem NN {H:Hp} {t:Nat} {m k v:AV} {p:Prop} {id:Nat} {n x:Int} (h:inF P H t m k v=some (p,id,n,x)) (hp:p):
  ∃kt et,tk P t= .map kt et/\tk P kt= .int .i64/\m= .mp id/\k= .int .i64 n/\v= .int .i64 x/\ ∃t' g,hget H id=some (.fmap t' (.ints g))/\g n=none:=by
 unfold inF at h
 split at h
 ·rename_i kt et cP
  unfold inK at h
  split at h
  ·rename_i fv
   unfold inO at h
   split at h
   ·rename_i t' g hg
    cases h;exact ⟨kt,et,cP,fv,rfl,rfl,rfl,t',g,hg,hp⟩
   ·cases h
  ·cases h
 ·cases h
def kdO:Option AObj->Option Nat
 |some (.fmap t (.ints _))=>some t
 |_=>none
def td (H:Hp) (id:Nat):Option Nat:=kdO (hget H id)
def FQ (n:Int):Option AObj->Option Int
 |some (.fmap _ (.ints g))=>g n
 |_=>none
def xZ (H:Hp) (id:Nat) (n:Int):Option Int:=FQ n (hget H id)
theorem V9 {H:Hp} {id t:Nat} (h:td H id=some t): ∃g,hget H id=some (.fmap t (.ints g)):=by
 unfold td kdO at h
 split at h
 ·rename_i t' g hg;cases h;exact ⟨g,hg⟩
 ·cases h
theorem tQ (H:Hp) (bt:Nat) (n' x':Int) (i:Nat):hget (insE H bt n' x') i=if i=bt then (match hget H i with|some (.fmap t (.ints g))=>some (.fmap t (.ints (updI g n' x')))|q=>q) else hget H i:=by
 unfold insE insO;by_cases e:i=bt
 ·subst e;rw [if_pos rfl]
  split
  ·rename_i t g hg;rw [s9 hg,hg]
  ·rename_i cH
   split
   ·rename_i t g hg;exact absurd hg (cH t g)
   ·rfl
 ·rw [if_neg e]
  split
  ·rw [iH (Ne.symm e)]
  ·rfl
theorem G2 (H:Hp) (bt:Nat) (n' x':Int) (id:Nat):td (insE H bt n' x') id=td H id:=by
 unfold td;rw [tQ]
 split
 ·split
  ·rename_i t g hg;rw [hg];rfl
  ·rfl
 ·rfl
theorem V8 {H:Hp} {id t:Nat} {g:Int->Option Int} {n x:Int} (h:hget H id=some (.fmap t (.ints g))):xZ (insE H id n x) id n=some x:=by
 unfold xZ;rw [tQ,if_pos rfl,h];simp [FQ,updI]
theorem U6 {H:Hp} {id bt:Nat} {n n' x':Int} (h:(xZ H id n).isSome=true):(xZ (insE H bt n' x') id n).isSome=true:=by
 unfold xZ at h⊢;rw [tQ]
 split
 ·split
  ·rename_i t g hg
   rw [hg] at h;simp only [FQ,updI] at h⊢
   split
   ·rfl
   ·exact h
  ·exact h
 ·exact h
theorem Xn {H1 H2:Hp} {id bt:Nat} {n n' x x':Int} (h: ∀i,hget H1 i=hget (insE H2 id n x) i) (hd:bt≠id\/n'≠n) (i:Nat):hget (insE H1 bt n' x') i=hget (insE (insE H2 bt n' x') id n x) i:=by
 rw [tQ H1,tQ (insE H2 bt n' x'),tQ H2 bt n' x',h i,tQ H2];by_cases e1:i=id
 ·by_cases e2:i=bt
  ·have hn:n'≠n:=by rcases hd with g|g<;>first|exact g|(exfalso;exact g (by omega))
   simp only [if_pos e1,if_pos e2];cases hq:hget H2 i with
   |none=>rfl
   |some ob=>
    cases ob with
    |fmap t c=>
     cases c with
     |ints g=>
      have:updI (updI g n x) n' x'=updI (updI g n' x') n x:=by
       funext q;simp only [updI];by_cases q1:q=n'
       ·have q2:q≠n:=fun e=>hn (q1.symm.trans e);rw [if_pos q1,if_neg q2,if_pos q1]
       ·rw [if_neg q1];by_cases q2:q=n
        ·rw [if_pos q2,if_pos q2]
        ·rw [if_neg q2,if_neg q2,if_neg q1]
      simp only [this]
     |bools g=>rfl
     |pairs g=>rfl
    |_=>rfl
  ·simp only [if_pos e1,if_neg e2]
 ·by_cases e2:i=bt
  ·simp only [if_neg e1,if_pos e2]
  ·simp only [if_neg e1,if_neg e2]
theorem vh (H:Hp) (id:Nat) (ob:AObj) (i:Nat):hget (hset H id ob) i=if id=i then (hget H i).map (fun _=>ob) else hget H i:=by
 by_cases e:id=i
 ·subst e;rw [if_pos rfl]
  induction H with
  |nil=>rfl
  |cons q r ih=>
   obtain ⟨k,o⟩:=q;simp only [hset,hget];by_cases e:k=id
   ·simp [e,hget]
   ·simp only [e,if_false,hget];exact ih
 ·rw [if_neg e,iH e]
theorem Xm (e:Ent) (aF:Nat) {H1 H2:Hp} {id:Nat} (h:hget H1 id=hget H2 id):hget (e.eff aF H1) id=hget (e.eff aF H2) id:=by
 cases e with
 |skip=>exact h
 |quiet r=>exact h
 |alloc r ob=>simp only [Ent.eff,hget];rw [h]
 |store i ob=>simp only [Ent.eff];rw [vh,vh,h]
 |app r g ob=>
  simp only [Ent.eff,hget]
  split
  ·rfl
  ·cases g with
   |none=>exact h
   |some i=>simp only [hgo];rw [vh,vh,h]
 |ins i n x=>simp only [Ent.eff];rw [tQ,tQ,h]
theorem U5 {ops:Array Oper} {es:Nat->Ent} {fr0:Fr} {d:Nat} (h:rb ops d=true) {E:Nat->Bool}: ∀k,k<=ops.size->fget (frS ops es fr0 E k) d=fget fr0 d:=by
 intro k
 induction k with
 |zero=>intro _;rfl
 |succ k ih=>
  intro hk;have cj:=ih (by omega);simp only [frS]
  split
  ·have aw:eX ops k≠some d:=by
    unfold rb at h
    have:=List.all_eq_true.1 h (ops.getD k default) (by
     have:ops.getD k default=ops[k]'(by omega):=by simp [show k<ops.size by omega]
     rw [this];simp)
    simpa [eX] using this
   cases hd:eX ops k with
   |none=>simp only [fput];exact cj
   |some q=>
    simp only [fput,fget];rw [if_neg (fun e=>aw (by rw [hd,e]))];exact cj
  ·exact cj
theorem NM {ops:Array Oper} {es:Nat->Ent} {fr0:Fr} {i t a id:Nat} {x y:Operand} {z:AV} {p:Prop} {ob:AObj} {H:Hp} {l:List Nat} {op:Op} (ho:op= .store t x y) (ha:stP op=some a) (hu:rb ops a=true) (bo:stF P H t (evA (bE l (frS ops es fr0 (fun _=>true) i)) x) z=some (p,id,ob)) (hi:i<=ops.size:=by omega): ∃off,fget fr0 a= .ptr id off:=by
 subst ho;cases x with
 |tmp d=>
  simp only [stP,Option.some.injEq] at ha;subst ha;simp only [evA] at bo
  split at bo
  ·rw [HJ] at bo
   split at bo
   ·simp [stF] at bo
   ·rw [U5 hu i hi] at bo;unfold stF at bo
    split at bo
    ·rename_i bt off hq
     split at bo
     ·split at bo
      ·split at bo
       ·cases bo;exact ⟨off,hq⟩
       ·cases bo
      ·cases bo
     ·cases bo
    ·cases bo
  ·simp [stF] at bo
 |_=>simp [stP] at ha
theorem Xl {H1 H2:Hp} {t:Nat} {x y:AV} {p:Prop} {id:Nat} {ob:AObj} (h:stF P H2 t x y=some (p,id,ob)) (e:hget H1 id=hget H2 id):stF P H1 t x y=stF P H2 t x y:=by
 unfold stF at h⊢;cases x with
 |ptr i off=>
  simp only at h⊢
  have:i=id:=by
   split at h
   ·split at h
    ·split at h
     ·cases h;rfl
     ·cases h
    ·cases h
   ·cases h
  subst this;rw [e]
 |_=>rfl
theorem Xk (hc:Mi ops ex dl) (rM: ∀i j a b,i<ops.size->j<ops.size->i≠j->((ij ops).getD j []).contains i=false->((ij ops).getD i []).contains j=false->stP (ops.getD i default).op=some a->stP (ops.getD j default).op=some b->rb ops a=true->rb ops b=true->a≠b->sep2 fr0 a b=true) (hb: ∀i,base<=i->hget H0 i=none) (fT: ∀j,j<ops.size->es j= .skip\/sJ P ops base ex dl j (ops.getD j default) (frS ops es fr0 (fun _=>true) j) (hS base es H0 (fun _=>true) j) (es j))
  {E:Nat->Bool} (hE:yp ops E) (YW: ∀i,E i=true->i<ops.size) {j:Nat} (hj:j<ops.size) (jw:dok (eX ops j) N=true) (fU:sJ P ops base ex dl j (ops.getD j default) (frS ops es fr0 (fun _=>true) j) (hS base es H0 (fun _=>true) j) (es j)) (ph:E j=false) (hr: ∀e∈nv (ops.getD j default),E e=true) {w:World} {ρ:Nat->Addr} {a:Act}
  (hs:aC B w0 Mx N w ρ (frS ops es fr0 E ops.size) (hS base es H0 E ops.size) a) {E':Nat->Bool} (h1:E' j=true) (h2: ∀i,i≠j->E' i=E i) (Q:Exit->Act->World->Prop) (K:Act->World->Prop)
  (hK: ∀a' w' ρ',aC B w0 Mx N w' ρ' (frS ops es fr0 E' ops.size) (hS base es H0 E' ops.size) a'->K a' w'):wpOp P ops Q j K a w:=by
 have X1:ops[j]?=some (ops.getD j default):=by simp [hj]
 have fD:(ops.getD j default).dst=eX ops j:=rfl;generalize gZ:ops.getD j default=o at*;have iV: ∀i,((ij ops).getD j []).contains i=true->E i=true:=fun i hi=>Gu hE hi (by rw [gZ];exact hr);have jS: ∀i,((ij ops).getD i []).contains j=true->E i=false:=fun i hi=>by
  cases mu:E i with
  |false=>rfl
  |true=>have:=Gu hE hi (hE i mu);rw [ph] at this;cases this
 have gM: ∀i,j<i->i<ops.size->E i=true-> ∀d,eX ops i=some d->eX ops j≠some d:=fun i hji dr mu d zA xC=>by
  rcases hc.same i j dr hj (by omega) d zA xC with g|g
  ·have:=hc.lt i j dr hj g;omega
  ·rw [jS i g] at mu;cases mu
 have c7:=U7 (es:=es) (fr0:=fr0) hj h1 h2 gM;have Lo: ∀t,fget (bE (bS ex j) (frS ops es fr0 (fun _=>true) j)) t= .any\/fget (bE (bS ex j) (frS ops es fr0 (fun _=>true) j)) t=fget (frS ops es fr0 E ops.size) t:=fun t=>by
  rw [HJ];by_cases hx:(bS ex j).contains t=true
  ·rw [if_pos hx];exact .inl rfl
  ·rw [if_neg hx];right;rw [←Mn (ops:=ops) (es:=es) (fr0:=fr0) (j:=j) (E:=fun i=>decide (i<j)) (fun _=>rfl) ops.size (by omega)];refine EL ops.size fun i hi hd=>?_;by_cases e:i=j
   ·subst e;simp [ph]
   ·rcases hc.slot i j hi hj e with g|g|g
    ·have:=hc.lt i j hi hj g;simp [this,iV i g]
    ·have:=hc.lt j i hj hi g;simp [show¬i<j by omega,jS i g]
    ·exact absurd (g t hd) hx
 have fN:=hs.vq Lo;have mT:wv ops o (bE (bS ex j) (frS ops es fr0 (fun _=>true) j))->Region.wanted o (yielded ops a.tmps)=true:=fun hw=>by
  rcases hw with hg|⟨g,b,hg,hv⟩
  ·simp [Region.wanted,hg]
  ·simp [Region.wanted,hg,ET fN hv]
 unfold wpOp;rw [X1];simp only;have vL:yc0 o.op=false->loud o.op=false->(∀i,E i=true->(es i).pK=false)/\ ∀i,i<j->(es i).pK=false:=fun gJ hl=>by
  have key: ∀i,i<ops.size->(es i).pK=true->((ij ops).getD i []).contains j=true/\i≠j:=fun i hi he=>by
   have bW:=fT i hi;have nK:loud (ops.getD i default).op=true:=by
    cases hk:es i with
    |store id ob=>replace bW:=bW.resolve_left (by rw [hk];intro h;cases h);rw [hk] at bW;exact bW.2.2.1
    |app r g ob=>replace bW:=bW.resolve_left (by rw [hk];intro h;cases h);rw [hk] at bW;exact bW.2.2.1
    |ins id n x=>replace bW:=bW.resolve_left (by rw [hk];intro h;cases h);rw [hk] at bW;exact bW.2.2.1
    |_=>rw [hk] at he;cases he
   have aw:i≠j:=fun e=>by subst e;rw [gZ,hl] at nK;cases nK
   exact ⟨hc.lo j i hj hi (Ne.symm aw) (by rw [gZ];exact gJ) (by rw [gZ];exact hl) nK,aw⟩
  refine ⟨fun i mu=>?_,fun i fC=>?_⟩
  ·cases he:(es i).pK with
   |false=>rfl
   |true=>have:=jS i (key i (YW i mu) he).1;rw [mu] at this;cases this
  ·cases he:(es i).pK with
   |false=>rfl
   |true=>have:=hc.lt j i hj (by omega) (key i (by omega) he).1;omega
 have Ck:loud o.op=true->yer o.op=false->stP o.op=none->hS base es H0 E ops.size=hS base es H0 (fun _=>true) j/\hS base es H0 E' ops.size=(es j).eff (base+j) (hS base es H0 (fun _=>true) j):=fun hl vM zn=>by
  have key: ∀i,i<ops.size->i≠j->(∀H,(es i).eff (base+i) H=H)\/(E i=true/\i<j)\/(E i=false/\j<i):=fun i hi e=>by
   have bW:=fT i hi;cases hk:es i with
   |skip=>left;intro H;rfl
   |quiet r=>left;intro H;rfl
   |alloc r mQ=>
    replace bW:=bW.resolve_left (by rw [hk];intro h;cases h);rw [hk] at bW
    have:=hc.lo i j hi hj e bW.2.1 bW.2.2.1 (by rw [gZ];exact hl)
    exact .inr (.inl ⟨iV i this,hc.lt i j hi hj this⟩)
   |store bt mQ=>
    replace bW:=bW.resolve_left (by rw [hk];intro h;cases h);rw [hk] at bW;rcases hc.lolo i j hi hj e bW.2.2.1 (by rw [gZ];exact hl) with g|g|g|g
    ·exact .inr (.inl ⟨iV i g,hc.lt i j hi hj g⟩)
    ·exact .inr (.inr ⟨jS i g,hc.lt j i hj hi g⟩)
    ·rw [gZ,vM] at g;cases g.2
    ·unfold sK at g;rw [gZ,zn] at g;unfold u7 at g
     split at g
     ·rename_i h';cases h'
     ·cases g
   |app r g' mQ=>
    replace bW:=bW.resolve_left (by rw [hk];intro h;cases h);rw [hk] at bW;rcases hc.lolo i j hi hj e bW.2.2.1 (by rw [gZ];exact hl) with g|g|g|g
    ·exact .inr (.inl ⟨iV i g,hc.lt i j hi hj g⟩)
    ·exact .inr (.inr ⟨jS i g,hc.lt j i hj hi g⟩)
    ·rw [gZ,vM] at g;cases g.2
    ·unfold sK at g;rw [gZ,zn] at g;unfold u7 at g
     split at g
     ·rename_i h';cases h'
     ·cases g
   |ins bt n' x'=>
    replace bW:=bW.resolve_left (by rw [hk];intro h;cases h);rw [hk] at bW;rcases hc.lolo i j hi hj e bW.2.2.1 (by rw [gZ];exact hl) with g|g|g|g
    ·exact .inr (.inl ⟨iV i g,hc.lt i j hi hj g⟩)
    ·exact .inr (.inr ⟨jS i g,hc.lt j i hj hi g⟩)
    ·rw [gZ,vM] at g;cases g.2
    ·unfold sK at g;rw [gZ,zn] at g;unfold u7 at g
     split at g
     ·rename_i h';cases h'
     ·cases g
  refine ⟨?_,?_⟩
  ·rw [←FY (base:=base) (es:=es) (H0:=H0) (j:=j) (E:=fun i=>decide (i<j)) (fun _=>rfl) ops.size (by omega)];refine yH ops.size fun i hi=>?_;by_cases e:i=j
   ·subst e;right;simp [ph]
   ·rcases key i hi e with g|⟨g1,g2⟩|⟨g1,g2⟩
    ·exact .inl g
    ·right;simp [g1,g2]
    ·right;simp [g1,show¬i<j by omega]
  ·have e1:hS base es H0 (fun _=>true) (j+1)=(es j).eff (base+j) (hS base es H0 (fun _=>true) j):=by simp [hS]
   rw [←e1,←FY (base:=base) (es:=es) (H0:=H0) (j:=j+1) (E:=fun i=>decide (i<j+1)) (fun _=>rfl) ops.size (by omega)];refine yH ops.size fun i hi=>?_;by_cases e:i=j
   ·subst e;right;simp [h1]
   ·rw [h2 i e];rcases key i hi e with g|⟨g1,g2⟩|⟨g1,g2⟩
    ·exact .inl g
    ·right;simp [g1,show i<j+1 by omega]
    ·right;simp [g1,show¬i<j+1 by omega]
 cases gk:es j with
 |skip=>
  rw [gk] at fU;obtain ⟨g,b,hg,hv⟩:=fU;have hw: ¬Region.wanted o (yielded ops a.tmps)=true:=by
   rcases hv with hv|hv
   ·have hy:=ET fN hv;simp [Region.wanted,hg,hy]
   ·have hy:=It fN hv;simp [Region.wanted,hg,hy]
  rw [if_neg hw];refine hK _ _ ρ ((hs.put (d:=o.dst) (by rw [fD];exact jw) (.tup [] [] rfl (fun i v x h=>by simp at h))).congr (fun t=>by rw [c7 t,fD,gk];rfl) (fun i=>?_));rw [yH (E:=E') (E':=E) ops.size fun i _=>by
   by_cases e:i=j
   ·left;subst e;intro H;rw [gk];rfl
   ·right;exact h2 i e]
 |quiet r=>
  rw [gk] at fU;obtain ⟨hw,oe,hq⟩:=fU;have uE: ∀s d x,o.op= .convert s d x-> ∃e,P.underlying s=some e:=fun s d x ho=>by
   rw [ho] at oe;simp only [cvOk] at oe;cases hu:P.underlying s with
   |some e=>exact ⟨e,rfl⟩
   |none=>simp [tk,hu] at oe
  have YV:hS base es H0 E' ops.size=hS base es H0 E ops.size:=yH ops.size fun i _=>by
   by_cases e:i=j
   ·left;subst e;intro H;rw [gk];rfl
   ·right;exact h2 i e
  have lN: ∀(w':World) (v:Value),aC B w0 Mx N w' ρ (frS ops es fr0 E ops.size) (hS base es H0 E ops.size) a->VR w' (MM Mx (hS base es H0 E ops.size) ρ) ρ (DD (hS base es H0 E ops.size)) v r->K (a.put o.dst v) w':=fun w' v bD hv=>
   hK _ _ ρ ((bD.put (d:=o.dst) (by rw [fD];exact jw) hv).congr (fun t=>by rw [c7 t,fD,gk];rfl) (fun i=>by rw [YV]))
  rw [if_pos (mT hw)];left;rcases hq with ⟨gJ,p,oV,hp⟩|⟨gJ,hl,B4,hq⟩
  ·rw [Tg (H':=hS base es H0 E ops.size) gJ] at oV;obtain ⟨v,aH,hv⟩:=EN (P:=P) fN.objs fN.ev uE oV hp;unfold Oper.wp;rw [aH];exact lN w v hs hv
  ·obtain ⟨y5,Kf⟩:=vL gJ hl;have db: ∀i ob,hget (yam (cR base dl j) (hS base es H0 (fun _=>true) j)) i=some ob->hget (hS base es H0 E ops.size) i=some ob:=fun i ob hi=>by
    rw [PC] at hi
    split at hi
    ·cases hi
    ·rename_i hnd
     rw [u6 hb j (fun i hi _=>Kf i hi)] at hi;rw [u6 hb ops.size (fun i _ mu=>y5 i mu)]
     split at hi
     ·rename_i hcnd
      have dr:E (i-base)=true:=by
       rcases hc.new (i-base) j (by omega) hj hcnd.2.1 with g|g
       ·exact iV _ g
       ·exfalso;apply hnd;rw [List.contains_iff_mem];exact List.mem_map.2 ⟨i-base,List.contains_iff_mem.1 g,by omega⟩
      rw [if_pos ⟨hcnd.1,by omega,dr,hcnd.2.2.2⟩];exact hi
     ·rename_i hcnd
      by_cases hib:base<=i
      ·rw [hb i hib] at hi;cases hi
      ·rw [if_neg (fun h=>hib h.1)];exact hi
   obtain ⟨My,FG,ui⟩:=hs.sub db (fun i ob hi=>List.all_eq_true.1 B4 _ (HO hi)) (fr':=ki (yam (cR base dl j) (hS base es H0 (fun _=>true) j)) (bE (bS ex j) (frS ops es fr0 (fun _=>true) j))) (fun t=>by
    rcases OI (yam (cR base dl j) (hS base es H0 (fun _=>true) j)) (bE (bS ex j) (frS ops es fr0 (fun _=>true) j)) t with g|⟨g1,g2⟩
    ·exact .inl g
    ·rcases Lo t with g3|g3
     ·left;rw [g1,g3]
     ·exact .inr ⟨by rw [g1,g3],g2⟩)
   have qL: ∀i,DD (yam (cR base dl j) (hS base es H0 (fun _=>true) j)) i->DD (hS base es H0 E ops.size) i:=fun i ⟨q,hq⟩=>⟨q,db i q hq⟩
   have fL: ∀{w':World} {v:Value},VR w' (MM My (yam (cR base dl j) (hS base es H0 (fun _=>true) j)) ρ) ρ (DD (yam (cR base dl j) (hS base es H0 (fun _=>true) j))) v r->VR w' (MM Mx (hS base es H0 E ops.size) ρ) ρ (DD (hS base es H0 E ops.size)) v r:=fun hv=>by
    rw [FG] at hv;exact hv.carry (Nat.le_refl _) (fun b _ hm=>⟨rfl,hm⟩) (fun k hd=>⟨qL k hd,rfl,fun arr t ha=>⟨arr,ha,rfl⟩⟩)
   rcases hq with ⟨p,oV,hp⟩|⟨f,args,ts,g,cap,ho,hf,jU⟩
   ·obtain ⟨v,aH,hv⟩:=EN (P:=P) ui.objs ui.ev uE oV hp;unfold Oper.wp;rw [aH];exact lN w v hs (fL hv)
   ·obtain ⟨vs,ef,vD,hx⟩:=(hf▸ui.ev f).cZ;obtain ⟨ct,cY⟩:=PQ (P:=P) ui jU (vs:=args.toList.map a.eval++vs) (by simp [vD]) (fun i v x g1 g2=>by
     by_cases hi:i<args.toList.length
     ·rw [List.getElem?_append_left (by simpa using hi),List.getElem?_map] at g1 g2;rw [List.getElem?_eq_getElem hi] at g1 g2;cases g1;cases g2;exact ui.ev _
     ·rw [List.getElem?_append_right (by simpa using hi)] at g1 g2;simp only [List.length_map] at g1 g2;exact hx _ v x g1 g2)
    have e1:(args.map a.eval++vs.toArray)=(args.toList.map a.eval++vs).toArray:=by obtain ⟨l⟩:=args;simp
    have aH:(execOp a.eval o).run P w= .ok (.enter g (args.toList.map a.eval++vs).toArray) w:=by
     simp only [execOp,ho,resolve,ef];have h3:(#[]++Array.map a.eval args++vs.toArray)=(args.toList.map a.eval++vs).toArray:=by rw [Array.empty_append];exact e1
     simp only [Deferred.ofValue,invoke,Sem.run_bind,Sem.run_pure,Result.andThen_ok,h3];exact IF ct _
    unfold Oper.wp;rw [aH];refine cY.mono ?_;rintro e w' ⟨v,r',rfl,rfl,_,hv,YA⟩;exact lN w' v (hs.later YA) (fL hv)
 |alloc r ob=>
  rw [gk] at fU;obtain ⟨hw,gJ,hl,nI⟩:=fU;obtain ⟨y5,Kf⟩:=vL gJ hl;have jM:hget (hS base es H0 E ops.size) (base+j)=none:=by
   rw [u6 hb ops.size (fun i _ mu=>y5 i mu),if_neg (fun h=>by rw [Nat.add_sub_cancel_left,ph] at h;cases h.2.2.1)];exact hb _ (by omega)
  have lN: ∀(w':World) (v:Value) (ρ2:Nat->Addr),aC B w0 Mx N w' ρ2 (frS ops es fr0 E ops.size) ((base+j,ob)::hS base es H0 E ops.size) a->VR w' (MM Mx ((base+j,ob)::hS base es H0 E ops.size) ρ2) ρ2 (DD ((base+j,ob)::hS base es H0 E ops.size)) v r->K (a.put o.dst v) w':=fun w' v ρ2 gh hv=>by
   refine hK _ _ _ ((gh.put (d:=o.dst) (by rw [fD];exact jw) hv).congr (fun t=>by rw [c7 t,fD,gk];rfl) (fun i=>?_));rw [u6 hb ops.size (fun i _ mu=>by
    by_cases e:i=j
    ·subst e;rw [gk];rfl
    ·rw [h2 i e] at mu;exact y5 i mu)]
   simp only [hget];rw [u6 hb ops.size (fun i _ mu=>y5 i mu)];by_cases e:base+j=i
   ·subst e;rw [if_pos ⟨by omega,by omega,by rw [Nat.add_sub_cancel_left];exact h1,by rw [Nat.add_sub_cancel_left,gk];rfl⟩,if_pos rfl,Nat.add_sub_cancel_left,gk];rfl
   ·rw [if_neg e];by_cases hib:base<=i
    ·have:i-base≠j:=by omega
     rw [h2 _ this]
    ·rw [if_neg (fun h=>hib h.1),if_neg (fun h=>hib h.1)]
  rw [if_pos (mT hw)];left;rcases nI with ⟨p,eo,hp⟩|⟨B4,f,args,ts,g,cap,ho,hf,jU⟩
  ·obtain ⟨v,w',aH,bD,hv,nR,xG⟩:=Pj (P:=P) fN jM eo hp;unfold Oper.wp;rw [aH];exact lN _ _ _ (bD.rm (fr':=frS ops es fr0 E ops.size) (fun t=>by subst xG;exact VR.laid hs jM (hs.frv t))) hv
  ·skip
   have db: ∀i ob,hget (yam (cR base dl j) (hS base es H0 (fun _=>true) j)) i=some ob->hget (hS base es H0 E ops.size) i=some ob:=fun i ob hi=>by
    rw [PC] at hi
    split at hi
    ·cases hi
    ·rename_i hnd
     rw [u6 hb j (fun i hi _=>Kf i hi)] at hi;rw [u6 hb ops.size (fun i _ mu=>y5 i mu)]
     split at hi
     ·rename_i hcnd
      have dr:E (i-base)=true:=by
       rcases hc.new (i-base) j (by omega) hj hcnd.2.1 with g|g
       ·exact iV _ g
       ·exfalso;apply hnd;rw [List.contains_iff_mem];exact List.mem_map.2 ⟨i-base,List.contains_iff_mem.1 g,by omega⟩
      rw [if_pos ⟨hcnd.1,by omega,dr,hcnd.2.2.2⟩];exact hi
     ·rename_i hcnd
      by_cases hib:base<=i
      ·rw [hb i hib] at hi;cases hi
      ·rw [if_neg (fun h=>hib h.1)];exact hi
   obtain ⟨My,FG,ui⟩:=hs.sub db (fun i ob hi=>List.all_eq_true.1 B4 _ (HO hi)) (fr':=ki (yam (cR base dl j) (hS base es H0 (fun _=>true) j)) (bE (bS ex j) (frS ops es fr0 (fun _=>true) j))) (fun t=>by
    rcases OI (yam (cR base dl j) (hS base es H0 (fun _=>true) j)) (bE (bS ex j) (frS ops es fr0 (fun _=>true) j)) t with g|⟨g1,g2⟩
    ·exact .inl g
    ·rcases Lo t with g3|g3
     ·left;rw [g1,g3]
     ·exact .inr ⟨by rw [g1,g3],g2⟩)
   have qL: ∀i,DD (yam (cR base dl j) (hS base es H0 (fun _=>true) j)) i->DD (hS base es H0 E ops.size) i:=fun i ⟨q,hq⟩=>⟨q,db i q hq⟩;obtain ⟨vs,ef,vD,hx⟩:=(hf▸ui.ev f).cZ;obtain ⟨ct,cY⟩:=TG (P:=P) ui jU (vs:=args.toList.map a.eval++vs) (by simp [vD]) (fun i v x g1 g2=>by
    by_cases hi:i<args.toList.length
    ·rw [List.getElem?_append_left (by simpa using hi),List.getElem?_map] at g1 g2;rw [List.getElem?_eq_getElem hi] at g1 g2;cases g1;cases g2;exact ui.ev _
    ·rw [List.getElem?_append_right (by simpa using hi)] at g1 g2;simp only [List.length_map] at g1 g2;exact hx _ v x g1 g2)
   have e1:(args.map a.eval++vs.toArray)=(args.toList.map a.eval++vs).toArray:=by obtain ⟨l⟩:=args;simp
   have aH:(execOp a.eval o).run P w= .ok (.enter g (args.toList.map a.eval++vs).toArray) w:=by
    simp only [execOp,ho,resolve,ef];have h3:(#[]++Array.map a.eval args++vs.toArray)=(args.toList.map a.eval++vs).toArray:=by rw [Array.empty_append];exact e1
    simp only [Deferred.ofValue,invoke,Sem.run_bind,Sem.run_pure,Result.andThen_ok,h3];exact IF ct _
   unfold Oper.wp;rw [aH];refine cY.mono ?_;rintro e w' ⟨v,c8,n,t,l,ρ',M0,rfl,⟨rfl,rfl⟩,hk,hv⟩;obtain ⟨j1,j2⟩:=hs.BE jM rfl hk;exact lN _ _ _ j1 (j2 _ _ _ hv)
 |store id ob=>
  rw [gk] at fU;obtain ⟨hw,gJ,hl,t,x,y,p,ho,bo,hp⟩:=fU;have vM:yer o.op=false:=by rw [ho];rfl
  have kinds: ∀i,i<ops.size->i≠j->(∀H,(es i).eff (base+i) H=H)\/(E i=true/\i<j)\/(E i=false/\j<i)\/ ∃bt mQ,es i= .store bt mQ/\bt≠id:=fun i hi e=>by
   have bW:=fT i hi;have kx:loud (ops.getD i default).op=true->(E i=true/\i<j)\/(E i=false/\j<i)\/(((ij ops).getD j []).contains i=false/\((ij ops).getD i []).contains j=false/\sK ops (ops.getD i default).op o.op=true):=fun nK=>by
    cases g1:((ij ops).getD j []).contains i with
    |true=>exact .inl ⟨iV i g1,hc.lt i j hi hj g1⟩
    |false=>
     cases g2:((ij ops).getD i []).contains j with
     |true=>exact .inr (.inl ⟨jS i g2,hc.lt j i hj hi g2⟩)
     |false=>
      rcases hc.lolo i j hi hj e nK (by rw [gZ];exact hl) with g|g|g|g
      ·rw [g1] at g;cases g
      ·rw [g2] at g;cases g
      ·rw [gZ,vM] at g;cases g.2
      ·rw [gZ] at g;exact .inr (.inr ⟨rfl,rfl,g⟩)
   cases hk:es i with
   |skip=>left;intro H;rfl
   |quiet r=>left;intro H;rfl
   |alloc r mQ=>
    replace bW:=bW.resolve_left (by rw [hk];intro h;cases h);rw [hk] at bW
    have:=hc.lo i j hi hj e bW.2.1 bW.2.2.1 (by rw [gZ];exact hl)
    exact .inr (.inl ⟨iV i this,hc.lt i j hi hj this⟩)
   |ins bt n' x'=>
    replace bW:=bW.resolve_left (by rw [hk];intro h;cases h);rw [hk] at bW;obtain ⟨_,_,h3,t1,m1,k1,v1,p1,qD,_⟩:=bW
    have:=hc.ins i j hi hj e (by rw [qD];rfl) (by rw [gZ];exact hl)
    rw [gZ,vM] at this;cases this
   |app r g' mQ=>
    replace bW:=bW.resolve_left (by rw [hk];intro h;cases h);rw [hk] at bW;obtain ⟨_,_,h3,s1,x1,t1,p1,qD,_⟩:=bW;rcases kx h3 with g|g|⟨_,_,g⟩
    ·exact .inr (.inl g)
    ·exact .inr (.inr (.inl g))
    ·rw [qD] at g;cases g
   |store bt mQ=>
    replace bW:=bW.resolve_left (by rw [hk];intro h;cases h);rw [hk] at bW;obtain ⟨_,_,h3,t1,x1,y1,p1,qD,w6,aD⟩:=bW;rcases kx h3 with g|g|⟨u1,u2,g⟩
    ·exact .inr (.inl g)
    ·exact .inr (.inr (.inl g))
    ·refine .inr (.inr (.inr ⟨bt,mQ,rfl,?_⟩));unfold sK at g;have gg: ∀a b,stP (ops.getD i default).op=some a->stP o.op=some b->u7 ops (some a) (some b)=true:=fun a b h1 h2=>by rw [←h1,←h2];exact g
     cases ha:stP (ops.getD i default).op with
     |none=>rw [ha] at g;cases g
     |some a=>
      cases pY:stP o.op with
      |none=>rw [ha,pY] at g;cases g
      |some b=>
       have g2:=gg a b ha pY;simp only [u7,Bool.and_eq_true,bne_iff_ne] at g2;have gh:=rM i j a b hi hj e u1 u2 ha (by rw [gZ];exact pY) g2.1.2 g2.2 g2.1.1;obtain ⟨XB,e1⟩:=NM (ops:=ops) (es:=es) (fr0:=fr0) qD ha g2.1.2 w6;obtain ⟨XA,e2⟩:=NM (ops:=ops) (es:=es) (fr0:=fr0) ho pY g2.2 bo;unfold sep2 at gh;rw [e1,e2] at gh
       simp only [sepV,Bool.or_eq_true,beq_iff_eq,bne_iff_ne] at gh;rcases gh with h|h
       ·exact absurd h g2.1.1
       ·exact h
  have L1: ∀k,k<=ops.size->hget (hS base es H0 E k) id=hget (hS base es H0 (fun _=>true) (min k j)) id:=by
   intro k
   induction k with
   |zero=>intro _;simp [hS]
   |succ k ih=>
    intro hk;have cj:=ih (by omega);by_cases e:k=j
    ·subst e;simp only [hS,ph,if_false,Bool.false_eq_true];rw [cj,Nat.min_self,show min (k+1) k=k by omega]
    ·by_cases Le:k<j
     ·rw [show min (k+1) j=k+1 by omega];rw [show min k j=k by omega] at cj;simp only [hS,if_true];rcases kinds k (by omega) e with g1|⟨g1,_⟩|⟨_,g2⟩|⟨bt,mQ,g1,g2⟩
      ·rw [g1,g1];split<;>exact cj
      ·rw [if_pos g1];exact Xm _ _ cj
      ·omega
      ·rw [g1];simp only [Ent.eff];rw [iH g2]
       split
       ·rw [iH g2];exact cj
       ·exact cj
     ·rw [show min (k+1) j=j by omega];rw [show min k j=j by omega] at cj;simp only [hS]
      split
      ·rename_i C1
       rcases kinds k (by omega) e with g1|⟨_,g2⟩|⟨g1,_⟩|⟨bt,mQ,g1,g2⟩
       ·rw [g1];exact cj
       ·omega
       ·rw [g1] at C1;cases C1
       ·rw [g1];simp only [Ent.eff];rw [iH g2];exact cj
      ·exact cj
  have hid:=L1 ops.size (Nat.le_refl _);rw [show min ops.size j=j by omega] at hid;rw [←Xl bo hid] at bo;have L2: ∀k,j<k->k<=ops.size-> ∀i,hget (hS base es H0 E' k) i=hget (hset (hS base es H0 E k) id ob) i:=by
   intro k
   induction k with
   |zero=>intro h;omega
   |succ k ih=>
    intro oa hk i;by_cases e:k=j
    ·subst e;have oi:hS base es H0 E' k=hS base es H0 E k:=by
      have gen: ∀q,q<=k->hS base es H0 E' q=hS base es H0 E q:=by
       intro q
       induction q with
       |zero=>intro _;rfl
       |succ q ihq=>intro hq;simp only [hS];rw [ihq (by omega),h2 q (by omega)]
      exact gen k (Nat.le_refl _)
     simp only [hS,h1,if_true,ph,Bool.false_eq_true,if_false,gk,Ent.eff];rw [oi]
    ·have cj:=ih (by omega) (by omega);simp only [hS,h2 k e]
     split
     ·rename_i C1
      rcases kinds k (by omega) e with g1|⟨_,g2⟩|⟨g1,_⟩|⟨bt,mQ,g1,g2⟩
      ·rw [g1,g1];exact cj i
      ·omega
      ·rw [g1] at C1;cases C1
      ·rw [g1];simp only [Ent.eff];rw [vh,vh,vh,cj i,vh];by_cases e1:bt=i
       ·rw [if_pos e1,if_neg (fun h=>g2 (e1.trans h.symm)),if_neg (fun h=>g2 (e1.trans h.symm)),if_pos e1]
       ·rw [if_neg e1,if_neg e1]
     ·exact cj i
  obtain ⟨w',aH,bD⟩:=Pl (P:=P) hs (fN.ev x) (fN.ev y) bo hp;rw [if_pos (mT hw)];left;have mX:(execOp a.eval o).run P w= .ok .skip w':=by simp only [execOp,ho];simp [aH]
  unfold Oper.wp;rw [mX];refine hK _ _ _ ((bD.put (d:=o.dst) (by rw [fD];exact jw) (.any _)).congr (fun t=>by rw [c7 t,fD,gk];rfl) (fun i=>?_));rw [L2 ops.size hj (Nat.le_refl _) i]
 |app r g ob=>
  rw [gk] at fU;obtain ⟨hw,gJ,hl,sx,x,t,p,ho,bo,hp⟩:=fU;obtain ⟨LU,LS⟩:=Ck hl (by rw [ho];rfl) (by rw [ho];rfl);rw [←LU] at bo;have jM:hget (hS base es H0 E ops.size) (base+j)=none:=by
   rw [LU];have gen: ∀k,k<=j-> ∀i,base+k<=i->hget (hS base es H0 (fun _=>true) k) i=none:=by
    intro k
    induction k with
    |zero=>intro _ i hi;exact hb i (by omega)
    |succ k ih=>
     intro hk i hi;have cj:=ih (by omega) i (by omega);simp only [hS,if_true];cases CE:es k with
     |skip=>exact cj
     |quiet r=>exact cj
     |alloc r ob=>simp only [Ent.eff,hget];rw [if_neg (by omega)];exact cj
     |store id ob=>
      simp only [Ent.eff];by_cases e:id=i
      ·subst e;have zo: ∀(H:Hp),hget H id=none->hget (hset H id ob) id=none:=fun H hH=>by
        induction H with
        |nil=>rfl
        |cons q r ihr=>
         obtain ⟨m,oo⟩:=q;simp only [hget] at hH
         split at hH
         ·cases hH
         ·rename_i hm;simp only [hset,hm,if_false,hget];exact ihr hH
       exact zo _ cj
      ·rw [iH e];exact cj
     |ins id n x=>
      have:=hc.ins k j (by omega) hj (by omega) (by
       have CD:=(fT k (by omega)).resolve_left (by rw [CE];intro h;cases h);rw [CE] at CD;obtain ⟨_,_,_,t',m',k',v',p',vK,_⟩:=CD;rw [vK];rfl) (by rw [gZ];exact hl)
      rw [gZ,ho] at this;cases this
     |app r g ob=>
      simp only [Ent.eff,hget];rw [if_neg (by omega)];cases g with
      |none=>exact cj
      |some id=>
       simp only [hgo];by_cases e:id=i
       ·subst e;have zo: ∀(H:Hp),hget H id=none->hget (hset H id .gone) id=none:=fun H hH=>by
         induction H with
         |nil=>rfl
         |cons q r ihr=>
          obtain ⟨m,oo⟩:=q;simp only [hget] at hH
          split at hH
          ·cases hH
          ·rename_i hm;simp only [hset,hm,if_false,hget];exact ihr hH
        exact zo _ cj
       ·rw [iH e];exact cj
   exact gen j (Nat.le_refl _) _ (Nat.le_refl _)
  obtain ⟨z,w',ρ',aH,bD,hv⟩:=S3 (P:=P) (ty:=o.type) hs jM (fN.ev sx) (fN.ev x) bo hp;rw [if_pos (mT hw)];left;have mX:(execOp a.eval o).run P w= .ok (.value z) w':=by simp [execOp,ho,resolve,invoke,builtin,aH]
  unfold Oper.wp;rw [mX];refine hK _ _ _ ((bD.put (d:=o.dst) (by rw [fD];exact jw) hv).congr (fun t=>by rw [c7 t,fD,gk];rfl) (fun i=>?_));rw [LS,gk,LU];rfl
 |ins id n x=>
  rw [gk] at fU;obtain ⟨hw,gJ,hl,t,mo,ko,vo,p,ho,bo,hp⟩:=fU;obtain ⟨kt,et,cP,fv,em,ek,ev,t',g,hg,pU⟩:=NN bo hp;have fC:yer (ops.getD j default).op=true:=by rw [gZ,ho];rfl
  have kinds: ∀i,i<ops.size->i≠j->(∀H,(es i).eff (base+i) H=H)\/(i<j/\E i=true/\ ∃r ob,es i= .alloc r ob)\/ ∃bt n' x',es i= .ins bt n' x':=fun i hi e=>by
   have bW:=fT i hi;cases hk:es i with
   |skip=>left;intro H;rfl
   |quiet r=>left;intro H;rfl
   |alloc r mQ=>
    replace bW:=bW.resolve_left (by rw [hk];intro h;cases h);rw [hk] at bW
    have:=hc.lo i j hi hj e bW.2.1 bW.2.2.1 (by rw [gZ];exact hl)
    exact .inr (.inl ⟨hc.lt i j hi hj this,iV i this,r,mQ,rfl⟩)
   |store bt mQ=>
    replace bW:=bW.resolve_left (by rw [hk];intro h;cases h);rw [hk] at bW;obtain ⟨_,_,h3,t1,x1,y1,p1,qD,_⟩:=bW
    have:=hc.ins j i hj hi (Ne.symm e) fC h3
    rw [qD] at this;cases this
   |app r g' mQ=>
    replace bW:=bW.resolve_left (by rw [hk];intro h;cases h);rw [hk] at bW;obtain ⟨_,_,h3,t1,x1,y1,p1,qD,_⟩:=bW
    have:=hc.ins j i hj hi (Ne.symm e) fC h3
    rw [qD] at this;cases this
   |ins bt n' x'=>exact .inr (.inr ⟨bt,n',x',rfl⟩)
  have L1: ∀k,k<=ops.size->td (hS base es H0 E k) id=td (hS base es H0 (fun _=>true) (min k j)) id:=by
   intro k
   induction k with
   |zero=>intro _;simp [hS]
   |succ k ih=>
    intro hk;have cj:=ih (by omega);by_cases e:k=j
    ·subst e;simp only [hS,ph,if_false,Bool.false_eq_true];rw [cj,Nat.min_self,show min (k+1) k=k by omega]
    ·by_cases Le:k<j
     ·rw [show min (k+1) j=k+1 by omega];rw [show min k j=k by omega] at cj;simp only [hS,if_true];rcases kinds k (by omega) e with g1|⟨_,g2,r,ob,g3⟩|⟨bt,n',x',g1⟩
      ·rw [g1,g1];split<;>exact cj
      ·rw [if_pos g2,g3];simp only [Ent.eff,td,hget]
       split
       ·rfl
       ·exact cj
      ·rw [g1];simp only [Ent.eff,G2]
       split
       ·rw [G2];exact cj
       ·exact cj
     ·rw [show min (k+1) j=j by omega];rw [show min k j=j by omega] at cj;simp only [hS]
      split
      ·rcases kinds k (by omega) e with g1|⟨g2,_⟩|⟨bt,n',x',g1⟩
       ·rw [g1];exact cj
       ·omega
       ·rw [g1];simp only [Ent.eff,G2];exact cj
      ·exact cj
  have R7:=L1 ops.size (Nat.le_refl _);rw [show min ops.size j=j by omega] at R7;have Le:td (hS base es H0 (fun _=>true) j) id=some t':=by unfold td;rw [hg];rfl
  obtain ⟨gE,Sf⟩: ∃gE,hget (hS base es H0 E ops.size) id=some (.fmap t' (.ints gE)):=V9 (R7.trans Le);have L3: ∀k,j<k->k<=ops.size->(xZ (hS base es H0 (fun _=>true) k) id n).isSome=true:=by
   intro k
   induction k with
   |zero=>intro h;omega
   |succ k ih=>
    intro oa hk;by_cases e:k=j
    ·subst e;simp only [hS,if_true,gk,Ent.eff];rw [V8 hg];rfl
    ·have cj:=ih (by omega) (by omega);simp only [hS,if_true];rcases kinds k (by omega) e with g1|⟨g2,_⟩|⟨bt,n',x',g1⟩
     ·rw [g1];exact cj
     ·omega
     ·rw [g1];simp only [Ent.eff];exact U6 cj
  have CF: ∀k,j<k->k<ops.size-> ∀bt n' x',es k= .ins bt n' x'->bt≠id\/n'≠n:=by
   intro k oa hk bt n' x' CE;have nh:=(fT k hk).resolve_left (by rw [CE];intro h;cases h);rw [CE] at nh;obtain ⟨_,_,_,t1,m1,k1,v1,p1,qD,w6,aD⟩:=nh;obtain ⟨_,_,_,_,_,_,_,t2,g2,nP,Lk⟩:=NN w6 aD;by_cases e1:bt=id
   ·by_cases e2:n'=n
    ·exfalso;subst e1 e2
     have:=L3 k oa (by omega)
     unfold xZ at this;rw [nP] at this;simp only [FQ,Lk] at this;cases this
    ·exact .inr e2
   ·exact .inl e1
  have L2: ∀k,j<k->k<=ops.size-> ∀i,hget (hS base es H0 E' k) i=hget (insE (hS base es H0 E k) id n x) i:=by
   intro k
   induction k with
   |zero=>intro h;omega
   |succ k ih=>
    intro oa hk i;by_cases e:k=j
    ·subst e;have oi:hS base es H0 E' k=hS base es H0 E k:=by
      have gen: ∀q,q<=k->hS base es H0 E' q=hS base es H0 E q:=by
       intro q
       induction q with
       |zero=>intro _;rfl
       |succ q ihq=>intro hq;simp only [hS];rw [ihq (by omega),h2 q (by omega)]
      exact gen k (Nat.le_refl _)
     simp only [hS,h1,if_true,ph,Bool.false_eq_true,if_false,gk,Ent.eff];rw [oi]
    ·have cj:=ih (by omega) (by omega);simp only [hS,h2 k e]
     split
     ·rcases kinds k (by omega) e with g1|⟨g2,_⟩|⟨bt,n',x',g1⟩
      ·rw [g1,g1];exact cj i
      ·omega
      ·rw [g1];simp only [Ent.eff];exact Xn cj (CF k (by omega) (by omega) bt n' x' g1) i
     ·exact cj i
  have X6:muF P (hS base es H0 E ops.size) t (.mp id) (.int .i64 n) (.int .i64 x)=some (id, .fmap t' (.ints (updI gE n x))):=by
   unfold muF;rw [cP];simp only [fv,muK,Sf,muM]
  have uu:=fN.ev mo;have nN:=fN.ev ko;have hv1:=fN.ev vo;rw [em] at uu;rw [ek] at nN;rw [ev] at hv1;obtain ⟨w',aH,bD⟩:=Iw (P:=P) hs uu nN hv1 X6;rw [if_pos (mT hw)];left;have mX:(execOp a.eval o).run P w= .ok .skip w':=by simp only [execOp,ho];simp [aH]
  unfold Oper.wp;rw [mX];refine hK _ _ _ ((bD.put (d:=o.dst) (by rw [fD];exact jw) (.any _)).congr (fun t=>by rw [c7 t,fD,gk];rfl) (fun i=>?_));rw [L2 ops.size hj (Nat.le_refl _) i];unfold insE;rw [Sf];rfl
theorem Pd {q:Nat} (hq:q<=ops.size) {H:Hp} {fr:Fr} (hc:Mi ops ex dl) (rM: ∀i j a b,i<ops.size->j<ops.size->i≠j->((ij ops).getD j []).contains i=false->((ij ops).getD i []).contains j=false->stP (ops.getD i default).op=some a->stP (ops.getD j default).op=some b->rb ops a=true->rb ops b=true->a≠b->sep2 fr a b=true)
  (fT: ∀j,j<ops.size->es j= .skip\/sJ P ops (hnew H) ex dl j (ops.getD j default) (frS ops es fr (fun _=>true) j) (hS (hnew H) es H (fun _=>true) j) (es j))
  (fU: ∀j,j<q->dok (eX ops j) N=true/\sJ P ops (hnew H) ex dl j (ops.getD j default) (frS ops es fr (fun _=>true) j) (hS (hnew H) es H (fun _=>true) j) (es j))
  (gM: ∀j,q<=j->j<ops.size-> ∀i,i<q->((ij ops).getD j []).contains i=true) (Q:Exit->Act->World->Prop)
  (post: ∀(listed:Array Bool) (a:Act) (w:World) (ρ:Nat->Addr),listed.size=ops.size->(∀i,i<ops.size->listed.getD i false=decide (i<q))->aC B w0 Mx N w ρ (frS ops es fr (fun _=>true) q) (hS (hnew H) es H (fun _=>true) q) a->wpAny P .any ops Q (ops.size-q) listed a w):
  ∀(f:Nat) (listed:Array Bool) (a:Act) (w:World),listed.size=ops.size->cntE (fun i=>listed.getD i false) ops.size+f=q->(∀i,q<=i->listed.getD i false=false)->yp ops (fun i=>listed.getD i false)->
   (∃ρ,aC B w0 Mx N w ρ (frS ops es fr (fun i=>listed.getD i false) ops.size) (hS (hnew H) es H (fun i=>listed.getD i false) ops.size) a)->
   wpAny P .any ops Q (ops.size-q+f) listed a w:=by
 have Db: ∀(E:Nat->Bool),(∀i,q<=i->E i=false)->cntE E ops.size=cntE E q:=by
  intro E hE;have gen: ∀d,q+d<=ops.size->cntE E (q+d)=cntE E q:=by
   intro d
   induction d with
   |zero=>intro _;rfl
   |succ d ih=>intro hd;rw [←Nat.add_assoc];simp only [cntE,hE (q+d) (by omega),Bool.false_eq_true,if_false];exact ih (by omega)
  have:=gen (ops.size-q) (by omega)
  rwa [show q+(ops.size-q)=ops.size by omega] at this
 intro f
 induction f with
 |zero=>
  intro listed a w fM iT cH bC ⟨ρ,hs⟩;rw [Db _ cH] at iT;have b6:=OG q (by omega:cntE (fun i=>listed.getD i false) q=q);have nK: ∀i,i<ops.size->listed.getD i false=decide (i<q):=fun i hi=>by
   by_cases e:i<q
   ·rw [b6 i e];simp [e]
   ·rw [cH i (by omega)];simp [e]
  have e1: ∀t,fget (frS ops es fr (fun _=>true) q) t=fget (frS ops es fr (fun i=>listed.getD i false) ops.size) t:=fun t=>by
   rw [←Mn (ops:=ops) (es:=es) (fr0:=fr) (j:=q) (E:=fun i=>decide (i<q)) (fun _=>rfl) ops.size hq];exact EL ops.size fun i hi _=>(nK i hi).symm
  have e2:hS (hnew H) es H (fun _=>true) q=hS (hnew H) es H (fun i=>listed.getD i false) ops.size:=by
   rw [←FY (base:=hnew H) (es:=es) (H0:=H) (j:=q) (E:=fun i=>decide (i<q)) (fun _=>rfl) ops.size hq];exact yH ops.size fun i hi=> .inr (nK i hi).symm
  exact post listed a w ρ fM nK (hs.congr e1 (fun i=>by rw [e2]))
 |succ f ih=>
  intro listed a w fM iT cH bC ⟨ρ,hs⟩;have RP: ∃j,j<q/\listed.getD j false=false:=by
   refine Classical.byContradiction fun hn=>?_;have b6: ∀i,i<q->listed.getD i false=true:=fun i hi=>by
    cases hh:listed.getD i false with
    |true=>rfl
    |false=>exact absurd ⟨i,hi,hh⟩ hn
   have jU: ∀k,k<=q->cntE (fun i=>listed.getD i false) k=k:=by
    intro k
    induction k with
    |zero=>intro _;rfl
    |succ k cj=>intro hk;simp only [cntE,cj (by omega),b6 k (by omega),if_true]
   rw [Db _ cH,jU q (Nat.le_refl _)] at iT;omega
  refine ⟨fun eK=>?_,fun j hj=>?_⟩
  ·exfalso;obtain ⟨j0,Yi,Ys⟩:=RP;have gen: ∀m,∀j,j<=m->j<q->listed.getD j false=false-> ∃j,j<q/\listed.getD j false=false/\ ∀i,i<j->listed.getD i false=true:=by
    intro m
    induction m with
    |zero=>intro j o0 hj hf;exact ⟨j,hj,hf,fun i hi=>by omega⟩
    |succ m ihm=>
     intro j o0 hj hf;by_cases w8: ∃i,i<j/\listed.getD i false=false
     ·obtain ⟨i,fC,sc⟩:=w8;exact ihm i (by omega) (by omega) sc
     ·refine ⟨j,hj,hf,fun i hi=>?_⟩;cases hh:listed.getD i false with
      |true=>rfl
      |false=>exact absurd ⟨i,hi,hh⟩ w8
   obtain ⟨j,hj,hf,w8⟩:=gen j0 j0 (Nat.le_refl _) Yi Ys;have hj:j<ops.size:=by omega
   have:j∈Region.ready .any ops listed:=mem_ready.2 ⟨by
    have bY:j<listed.size:=by omega
    simpa [bY] using hf,ops[j],by simp [hj],fun e he LD=>w8 _ (hc.elt j hj e.on (by
     simp only [nv,List.mem_map,List.mem_filter];exact ⟨e,⟨by simpa [hj] using he,LD⟩,rfl⟩))⟩
   rw [eK] at this;cases this
  ·obtain ⟨g1,o,g2,g3⟩:=mem_ready.1 hj;have dE:j<ops.size:=(Array.getElem?_eq_some_iff.1 g2).1;have bY:j<listed.size:=by omega
   have ph:listed.getD j false=false:=by simpa [bY] using g1
   have ho:ops.getD j default=o:=by simp [g2]
   have se: ∀e∈nv (ops.getD j default),listed.getD e false=true:=fun e he=>by
    rw [ho] at he;simp only [nv,List.mem_map,List.mem_filter] at he;obtain ⟨x,⟨zc,BP⟩,rfl⟩:=he;exact g3 x (by simpa using zc) BP
   have oZ:j<q:=by
    rcases Nat.lt_or_ge j q with g|g
    ·exact g
    ·obtain ⟨i,hi,sc⟩:=RP
     have:=Gu (E:=fun i=>listed.getD i false) bC (gM j g dE i hi) se
     rw [sc] at this;cases this
   have mW:(listed.setIfInBounds j true).getD j false=true:=by simp [bY]
   have mV: ∀i,i≠j->(listed.setIfInBounds j true).getD i false=listed.getD i false:=fun i hi=>getD_set_ne false (Ne.symm hi)
   refine Xk (P:=P) (N:=N) (ex:=ex) (dl:=dl) hc rM (fun i hi=>yJ hi) fT bC (fun i hi=>?_) dE (fU j oZ).1 (fU j oZ).2 ph se hs (E':=fun i=>(listed.setIfInBounds j true).getD i false) mW mV _ _ (fun a' w' ρ' bD=>ih _ a' w' (by simpa using fM) ?_ ?_ ?_ ⟨ρ',bD⟩)
   ·have fS:i<listed.size:=by
     rcases Nat.lt_or_ge i listed.size with g|g
     ·exact g
     ·simp [Nat.not_lt.2 g] at hi
    omega
   ·have:=OE (E:=fun i=>listed.getD i false) (E':=fun i=>(listed.setIfInBounds j true).getD i false) ph mW mV ops.size
    rw [if_pos dE] at this;omega
   ·intro i hi;rw [mV i (by omega)];exact cH i hi
   ·intro k hk i hi;show (listed.setIfInBounds j true).getD i false=true;have hk:(listed.setIfInBounds j true).getD k false=true:=hk;by_cases e:i=j
    ·subst e;exact mW
    ·rw [mV i e];by_cases ek:k=j
     ·subst ek;exact se i hi
     ·rw [mV k ek] at hk;exact bC k hk i hi
theorem PB {q:Nat} {H:Hp} {fr:Fr} {a:Act} {w:World} {ρ:Nat->Addr} {Q:Exit->Act->World->Prop} (hq:q<=ops.size) (hs:aC B w0 Mx N w ρ fr H a)
  (Cj: ∀(f:Nat) (listed:Array Bool) (a:Act) (w:World),listed.size=ops.size->cntE (fun i=>listed.getD i false) ops.size+f=q->(∀i,q<=i->listed.getD i false=false)->yp ops (fun i=>listed.getD i false)->
   (∃ρ,aC B w0 Mx N w ρ (frS ops es fr (fun i=>listed.getD i false) ops.size) (hS (hnew H) es H (fun i=>listed.getD i false) ops.size) a)->
   wpAny P .any ops Q (ops.size-q+f) listed a w):wpAny P .any ops Q ops.size (Array.replicate ops.size false) a {w with drawn:=w.drawn+1}:=by
 have h0:=Cj q (Array.replicate ops.size false) a {w with drawn:=w.drawn+1} (by simp) ?_ (fun i _=>vi _ _) (fun j hj=>?_) ⟨ρ,(hs.draw).congr (fun t=>?_) (fun i=>?_)⟩
 ·rwa [show ops.size-q+q=ops.size by omega] at h0
 ·have: ∀k,cntE (fun i=>(Array.replicate ops.size false).getD i false) k=0:=by
   intro k
   induction k with
   |zero=>rfl
   |succ k cj=>simp only [vi] at cj;simp only [cntE,vi,cj];rfl
  rw [this];omega
 ·exfalso;have hj:(Array.replicate ops.size false).getD j false=true:=hj;rw [vi] at hj;cases hj
 ·have: ∀k,frS ops es fr (fun i=>(Array.replicate ops.size false).getD i false) k=fr:=by
   intro k
   induction k with
   |zero=>rfl
   |succ k cj=>simp only [vi] at cj;simp only [frS,vi,cj];rfl
  rw [this]
 ·have: ∀k,hS (hnew H) es H (fun i=>(Array.replicate ops.size false).getD i false) k=H:=by
   intro k
   induction k with
   |zero=>rfl
   |succ k cj=>simp only [vi] at cj;simp only [hS,vi,cj];rfl
  rw [this]
theorem Pc {listed:Array Bool} (fM:listed.size=ops.size) (b6: ∀i,i<ops.size->listed.getD i false=true):Region.ready .any ops listed=[]:=by
 rw [List.eq_nil_iff_forall_not_mem];intro j hj;obtain ⟨g1,o,g2,_⟩:=mem_ready.1 hj;have dE:j<ops.size:=(Array.getElem?_eq_some_iff.1 g2).1
 have:=b6 j dE
 have bY:j<listed.size:=by omega
 simp [bY] at this g1;rw [this] at g1;cases g1
theorem an.wT {id:Nat} {fr:Fr} {H:Hp} {Q:Exit->Fr->Hp->Prop} (ex dl:List (List Nat)) (fV:(Dc ops ex dl&&(ex.length==ops.size)&&(dl.length==ops.size))=true) (hm:P.follows .mixedOrders=true)
  (rM: ∀i j a b,i<ops.size->j<ops.size->i≠j->((ij ops).getD j []).contains i=false->((ij ops).getD i []).contains j=false->stP (ops.getD i default).op=some a->stP (ops.getD j default).op=some b->rb ops a=true->rb ops b=true->a≠b->sep2 fr a b=true)
  (h:awD P N ops (hnew H) 0 ops.toList ex dl fr H (Q .normal)):an P N id ops fr H Q:=by
 simp only [Bool.and_eq_true,beq_iff_eq] at fV;obtain ⟨⟨gN,nL⟩,zq⟩:=fV;have hc:=Ro gN;obtain ⟨es,h1,h2⟩:=HI (P:=P) (N:=N) (ops:=ops) (base:=hnew H) (ex:=ex) (dl:=dl) ops.size 0 fr H (by omega) nL zq (by
  rw [List.take_of_length_le (by simp)];simpa using h)
 have fT: ∀j,j<ops.size->dok (eX ops j) N=true/\sJ P ops (hnew H) ex dl j (ops.getD j default) (frS ops es fr (fun _=>true) j) (hS (hnew H) es H (fun _=>true) j) (es j):=fun j hj=>by
  obtain ⟨g1,fr',H',g2,g3,g4⟩:=h1 j hj;rw [Nat.zero_add] at g1 g4;rw [Am] at g2;rw [zN] at g3;subst g2 g3;exact ⟨g1,g4⟩
 rw [Am,zN] at h2;refine ⟨fun B w0 Mx w ρ a hs=>wp_region_any hm (PB (q:=ops.size) (Nat.le_refl _) hs (Pd (Nat.le_refl _) hc rM (fun j hj=> .inr (fT j hj).2) fT (fun j h1 h2=>by omega) _ (fun listed a w ρ fM nK hs=>?_)))⟩;rw [Nat.sub_self];exact ⟨Pc fM (fun i hi=>by rw [nK i hi];simp [hi]),ρ,_,_,h2,hs⟩
def yyj (P:Program) (N:Nat) (ops:Array Oper) (K:Fr->Hp->Prop) (fr:Fr) (H:Hp):Prop:=awL P N ops (ops.toList.drop (ops.size-1)) fr H K
theorem an.au {id:Nat} {fr:Fr} {H:Hp} {Q:Exit->Fr->Hp->Prop} (ex dl:List (List Nat)) (fV:(Dc ops ex dl&&(ex.length==ops.size)&&(dl.length==ops.size)&&Qu ops&&Ny ops)=true) (hm:P.follows .mixedOrders=true)
  (h:awD P N ops (hnew H) 0 (ops.toList.take (ops.size-1)) ex dl fr H (yyj P N ops (Q .normal))):an P N id ops fr H Q:=by
 simp only [Bool.and_eq_true,beq_iff_eq] at fV;obtain ⟨⟨⟨⟨gN,nL⟩,zq⟩,qE⟩,Lc⟩:=fV;have hc:=Ro gN;unfold Ny at Lc;simp only [Bool.and_eq_true,decide_eq_true_eq,Option.isNone_iff_eq_none,List.all_eq_true,List.mem_range] at Lc;obtain ⟨⟨xg,pU⟩,iV⟩:=Lc
 obtain ⟨c8,Y5,C2⟩:=HI (P:=P) (N:=N) (ops:=ops) (base:=hnew H) (ex:=ex) (dl:=dl) (ops.size-1) 0 fr H (by omega) nL zq (by simpa only [List.drop_zero] using h);obtain ⟨es,Lr,CC⟩: ∃es:Nat->Ent,es (ops.size-1)= .skip/\ ∀i,i<ops.size-1->es i=c8 i:=⟨fun i=>if i<ops.size-1 then c8 i else .skip,by simp,fun i hi=>by simp [hi]⟩
 have de: ∀k,k<=ops.size-1->frS ops es fr (fun _=>true) k=frS ops c8 fr (fun _=>true) k/\hS (hnew H) es H (fun _=>true) k=hS (hnew H) c8 H (fun _=>true) k:=by
  intro k
  induction k with
  |zero=>intro _;exact ⟨rfl,rfl⟩
  |succ k ih=>
   intro hk;obtain ⟨i1,i2⟩:=ih (by omega);simp only [frS,hS,if_true,i1,i2,CC k (by omega),and_self]
 have fT: ∀j,j<ops.size-1->dok (eX ops j) N=true/\sJ P ops (hnew H) ex dl j (ops.getD j default) (frS ops es fr (fun _=>true) j) (hS (hnew H) es H (fun _=>true) j) (es j):=fun j hj=>by
  obtain ⟨g1,fr',H',g2,g3,g4⟩:=Y5 j hj;rw [Nat.zero_add] at g1 g4;rw [Am] at g2;rw [zN] at g3;subst g2 g3;rw [(de j (by omega)).1,(de j (by omega)).2,CC j hj];exact ⟨g1,g4⟩
 rw [Am,zN,←(de (ops.size-1) (Nat.le_refl _)).1,←(de (ops.size-1) (Nat.le_refl _)).2] at C2;refine ⟨fun B w0 Mx w ρ a hs=>wp_region_any hm (PB (q:=ops.size-1) (by omega) hs (Pd (by omega) hc (fun i j a b hi hj aw h1 h2 ha hb ua ub fh=>?_) (fun j hj=>?_) fT (fun j h1 h2 i hi=>?_) _ (fun listed a w ρ fM nK hs=>?_)))⟩
 ·exfalso;have h0:=List.all_eq_true.1 (List.all_eq_true.1 qE j (by simpa using hj)) i (by simpa using hi);simp only [Bool.or_eq_true,beq_iff_eq,Bool.not_eq_true'] at h0;rcases h0 with ((h0|h0)|h0)|h0
  ·exact aw h0
  ·unfold sK at h0;rw [ha,hb] at h0;simp only [u7,ua,ub,Bool.and_true,bne_eq_false_iff_eq] at h0;exact fh h0
  ·rw [h1] at h0;cases h0
  ·rw [h2] at h0;cases h0
 ·rcases Nat.lt_or_ge j (ops.size-1) with g|g
  ·exact .inr (fT j g).2
  ·rw [show j=ops.size-1 by omega];exact .inl Lr
 ·rw [show j=ops.size-1 by omega];exact iV i hi
 ·rw [show ops.size-(ops.size-1)=0+1 by omega];refine ⟨fun eK=>?_,fun j hj=>?_⟩
  ·exfalso
   have:ops.size-1∈Region.ready .any ops listed:=mem_ready.2 ⟨by
    have bY:ops.size-1<listed.size:=by omega
    have:=nK (ops.size-1) (by omega)
    simpa [bY] using this,ops[ops.size-1],by simp,fun e he LD=>by
     have aA:=hc.elt (ops.size-1) (by omega) e.on (by
      simp only [nv,List.mem_map,List.mem_filter];refine ⟨e,⟨?_,LD⟩,rfl⟩;have xx:ops.getD (ops.size-1) default=ops[ops.size-1]:=by simp [show ops.size-1<ops.size by omega]
      rw [xx];simpa using he)
     rw [nK e.on (by omega)];simp [aA]⟩
   rw [eK] at this;cases this
  ·obtain ⟨g1,o,g2,g3⟩:=mem_ready.1 hj;have dE:j<ops.size:=(Array.getElem?_eq_some_iff.1 g2).1;have bY:j<listed.size:=by omega
   have ph:listed.getD j false=false:=by simpa [bY] using g1
   have oZ:j=ops.size-1:=by
    rw [nK j dE] at ph
    have: ¬j<ops.size-1:=by simpa using ph
    omega
   subst oZ;have ho:ops.getD (ops.size-1) default=o:=by simp [g2]
   unfold wpOp;rw [g2];simp only;rw [ho] at pU;unfold yyj at C2;have Fz:ops.toList.drop (ops.size-1)=[o]:=by
    rw [List.drop_eq_getElem_cons (by simp;omega),List.drop_of_length_le (by simp;omega)]
    have:=(Array.getElem?_eq_some_iff.1 g2).2
    simpa using this
   rw [Fz] at C2;simp only [awL,pU] at C2;rw [if_pos (by simp [Region.wanted,pU])];left;refine Oper.wp_mono ?_ (AP hs C2 _);rintro a' w' ⟨ρ',fr',H',hq,bD⟩;exact ⟨Pc (by simpa using fM) (fun i hi=>by
    by_cases e:i=ops.size-1
    ·subst e;simp [bY]
    ·rw [getD_set_ne false (Ne.symm e),nK i hi];simp;omega),ρ',fr',H',hq,bD⟩
theorem an.intro {id:Nat} {fr:Fr} {H:Hp} {Q:Exit->Fr->Hp->Prop} (ex dl:List (List Nat)) (fV:(Dc ops ex dl&&(ex.length==ops.size)&&(dl.length==ops.size)&&Qu ops)=true) (hm:P.follows .mixedOrders=true)
  (h:awD P N ops (hnew H) 0 ops.toList ex dl fr H (Q .normal)):an P N id ops fr H Q:=by
 rw [Bool.and_eq_true] at fV;refine an.wT ex dl fV.1 hm (fun i j a b hi hj aw h1 h2 ha hb ua ub fh=>?_) h;exfalso;have h0:=List.all_eq_true.1 (List.all_eq_true.1 fV.2 j (by simpa using hj)) i (by simpa using hi);simp only [Bool.or_eq_true,beq_iff_eq,Bool.not_eq_true'] at h0;rcases h0 with ((h0|h0)|h0)|h0
 ·exact aw h0
 ·unfold sK at h0;rw [ha,hb] at h0;simp only [u7,ua,ub,Bool.and_true,bne_eq_false_iff_eq] at h0;exact fh h0
 ·rw [h1] at h0;cases h0
 ·rw [h2] at h0;cases h0
end
inductive Tr where
 |done
 |node (l:List (Nat×Tr))
mutual
def chkT (ops:Array Oper) (listed:Array Bool):Nat->Tr->Bool
 |0, .done=>(Region.ready .any ops listed).isEmpty
 |f+1, .node l=> !(Region.ready .any ops listed).isEmpty&&(Region.ready .any ops listed==l.map (·.1))&&Dl ops listed f l
 |_,_=>false
def Dl (ops:Array Oper) (listed:Array Bool) (f:Nat):List (Nat×Tr)->Bool
 |[]=>true
 |(i,t)::r=>chkT ops (listed.setIfInBounds i true) f t&&Dl ops listed f r
end
mutual
def awT (P:Program) (N:Nat) (ops:Array Oper):Tr->Fr->Hp->(Fr->Hp->Prop)->Prop
 | .done,fr,H,K=>K fr H
 | .node l,fr,H,K=>awTs P N ops l fr H K
def awTs (P:Program) (N:Nat) (ops:Array Oper):List (Nat×Tr)->Fr->Hp->(Fr->Hp->Prop)->Prop
 |[],_,_,_=>True
 |(i,t)::r,fr,H,K=>awL P N ops ((ops[i]?).toList) fr H (fun fr' H'=>awT P N ops t fr' H' K)/\awTs P N ops r fr H K
end
theorem PA {P:Program} {N:Nat} {ops:Array Oper} {B:Nat} {w0:ik} {Mx:Nat->Prop} {w:World} {ρ:Nat->Addr} {fr:Fr} {H:Hp} {a:Act} {K:Fr->Hp->Prop} {i:Nat} {o:Oper} (hi:ops[i]?=some o) (hq:awL P N ops [o] fr H K) (hs:aC B w0 Mx N w ρ fr H a) (Q:Exit->Act->World->Prop) (K':Act->World->Prop) (hK: ∀a' w' ρ' fr' H',K fr' H'->aC B w0 Mx N w' ρ' fr' H' a'->K' a' w'):wpOp P ops Q i K' a w:=by
 unfold wpOp;rw [hi];simp only [awL] at hq⊢;have gL: ∀(a':Act) (w':World),(∃ρ' fr' H',K fr' H'/\aC B w0 Mx N w' ρ' fr' H' a')->K' a' w':=fun a' w' ⟨ρ',fr',H',h1,h2⟩=>hK a' w' ρ' fr' H' h1 h2
 split at hq
 ·rename_i hg
  have hw:Region.wanted o (yielded ops a.tmps)=true:=by simp [Region.wanted,hg]
  rw [if_pos hw];exact .inl (Oper.wp_mono gL (AP hs hq _))
 ·rename_i j b hg
  split at hq
  ·rename_i c hc
   have hy:=ET hs hc;by_cases jT:c=b
   ·have hw:Region.wanted o (yielded ops a.tmps)=true:=by simp [Region.wanted,hg,hy,jT]
    rw [if_pos hw];exact .inl (Oper.wp_mono gL (AP (hs.gput (jT▸hc)) (hq.1 jT) _))
   ·have hw: ¬Region.wanted o (yielded ops a.tmps)=true:=by simp [Region.wanted,hg,hy,jT]
    rw [if_neg hw];have nq:c= !b:=by cases c<;>cases b<;>simp_all
    obtain ⟨hd,hq⟩:=hq.2 nq;exact hK _ _ ρ _ _ hq ((hs.gput (nq▸hc)).put hd (.tup [] [] rfl (fun i v x h=>by simp at h)))
  ·rename_i hc
   have hy:=It hs hc;have hw: ¬Region.wanted o (yielded ops a.tmps)=true:=by simp [Region.wanted,hg,hy]
   rw [if_neg hw];exact hK _ _ ρ _ _ hq.2 (hs.put hq.1 (.tup [] [] rfl (fun i v x h=>by simp at h)))
  ·exact hq.elim
theorem EA {P:Program} {N:Nat} {ops:Array Oper} {fr:Fr} {H:Hp} {K:Fr->Hp->Prop}: ∀(l:List (Nat×Tr)),awTs P N ops l fr H K-> ∀q∈l,awL P N ops ((ops[q.1]?).toList) fr H (fun fr' H'=>awT P N ops q.2 fr' H' K)
 |[],_,q,hq=>by cases hq
 |(i,t)::r,h,q,hq=>by
  simp only [awTs] at h;rcases List.mem_cons.1 hq with e|e
  ·subst e;exact h.1
  ·exact EA r h.2 q e
theorem Pb {ops:Array Oper} {listed:Array Bool} {f:Nat}: ∀(l:List (Nat×Tr)),Dl ops listed f l=true-> ∀q∈l,chkT ops (listed.setIfInBounds q.1 true) f q.2=true
 |[],_,q,hq=>by cases hq
 |(i,t)::r,h,q,hq=>by
  simp only [Dl,Bool.and_eq_true] at h;rcases List.mem_cons.1 hq with e|e
  ·subst e;exact h.1
  ·exact Pb r h.2 q e
theorem Xj {P:Program} {N:Nat} {ops:Array Oper} {B:Nat} {w0:ik} {Mx:Nat->Prop} {K:Fr->Hp->Prop} (Q:Exit->Act->World->Prop) (hQ: ∀a' w' ρ' fr' H',K fr' H'->aC B w0 Mx N w' ρ' fr' H' a'->Q .normal a' w'): ∀(f:Nat) (t:Tr) (listed:Array Bool) (w:World) (ρ:Nat->Addr) (fr:Fr) (H:Hp) (a:Act),chkT ops listed f t=true->awT P N ops t fr H K->aC B w0 Mx N w ρ fr H a->wpAny P .any ops Q f listed a w:=by
 intro f
 induction f with
 |zero=>
  intro t listed w ρ fr H a hc h hs;cases t with
  |done=>
   simp only [chkT,List.isEmpty_iff] at hc;simp only [awT] at h;exact ⟨hc,hQ _ _ ρ _ _ h hs⟩
  |node l=>simp [chkT] at hc
 |succ f ih=>
  intro t listed w ρ fr H a hc h hs;cases t with
  |done=>simp [chkT] at hc
  |node l=>
   simp only [chkT,Bool.and_eq_true,Bool.not_eq_true',beq_iff_eq] at hc;simp only [awT] at h;refine ⟨fun eK=>by rw [eK] at hc;simp at hc,fun i hi=>?_⟩;rw [hc.1.2] at hi;obtain ⟨q,hq,rfl⟩:=List.mem_map.1 hi;have h1:=EA l h q hq;have h2:=Pb l hc.2 q hq;have hr:q.1∈Region.ready .any ops listed:=by rw [hc.1.2];exact List.mem_map_of_mem hq
   obtain ⟨_,o,g2,_⟩:=mem_ready.1 hr;rw [g2] at h1;exact PA g2 h1 hs _ _ fun a' w' ρ' fr' H' hk bD=>ih q.2 _ w' ρ' fr' H' a' h2 hk bD
theorem an.av {P:Program} {N:Nat} {ops:Array Oper} {id:Nat} {fr:Fr} {H:Hp} {Q:Exit->Fr->Hp->Prop} (t:Tr) (fV:chkT ops (Array.replicate ops.size false) ops.size t=true) (hm:P.follows .mixedOrders=true)
  (h:awT P N ops t fr H (Q .normal)):an P N id ops fr H Q:=
 ⟨fun _ _ _ _ ρ a hs=>wp_region_any hm (Xj _ (fun _ _ ρ' fr' H' hk bD=>⟨ρ',fr',H',hk,bD⟩) ops.size t _ _ ρ fr H a fV h hs.draw)⟩
section
variable {P:Program} {N:Nat} {ops:Array Oper} {fr fr':Fr} {H H':Hp} {K:Fr->Hp->Prop}
theorem y0g {t:Tr} (h1:fr=fr') (h2:H=H'):awT P N ops t fr H K=awT P N ops t fr' H' K:=by rw [h1,h2]
theorem yyk {l:List (Nat×Tr)} (h1:fr=fr') (h2:H=H'):awTs P N ops l fr H K=awTs P N ops l fr' H' K:=by rw [h1,h2]
end
attribute [congr] y0g yyk
attribute [go_sem] awT awTs Option.toList_some
section
variable (P:Program) (N:Nat) (ops:Array Oper) (base j:Nat) (fr:Fr) (H:Hp) (K:Fr->Hp->Prop)
structure Qt (d:Option Nat) (Hd:Hp) (r:List Oper) (aZ a7:List (List Nat)) (g:Nat) (xs:List AV):Prop where
 out:zO P g xs Hd (base+j) (fun x=>awD P N ops base (j+1) r aZ a7 (fput fr d x) H K) (fun x ob=>awD P N ops base (j+1) r aZ a7 (fput fr d x) ((base+j,ob)::H) K)
def kQ (o:Oper) (r:List Oper) (aZ a7:List (List Nat)) (p:Prop) (x:AV):Prop:=p/\awD P N ops base (j+1) r aZ a7 (fput fr o.dst x) H K
def kR (o:Oper) (r:List Oper) (aZ:List (List Nat)) (dl:List Nat) (a7:List (List Nat)) (p:Prop) (x:AV):Prop:=(yam (dl.map (base+ ·)) H).all (fun q=>sO (yam (dl.map (base+ ·)) H) q.2)=true/\p/\awD P N ops base (j+1) r aZ a7 (fput fr o.dst x) H K
def kA (o:Oper) (r:List Oper) (aZ a7:List (List Nat)) (p:Prop) (q:AV×AObj):Prop:=p/\awD P N ops base (j+1) r aZ a7 (fput fr o.dst q.1) ((base+j,q.2)::H) K
def kS (o:Oper) (r:List Oper) (aZ a7:List (List Nat)) (p:Prop) (q:Nat×AObj):Prop:=p/\awD P N ops base (j+1) r aZ a7 (fput fr o.dst .any) (hset H q.1 q.2) K
def kI (o:Oper) (r:List Oper) (aZ a7:List (List Nat)) (p:Prop) (q:Nat×Int×Int):Prop:=p/\awD P N ops base (j+1) r aZ a7 (fput fr o.dst .any) (insE H q.1 q.2.1 q.2.2) K
def kP (o:Oper) (r:List Oper) (aZ a7:List (List Nat)) (p:Prop) (q:AV×Option Nat×AObj):Prop:=p/\awD P N ops base (j+1) r aZ a7 (fput fr o.dst q.1) ((base+j,q.2.2)::hgo H q.2.1) K
def kC (o:Oper) (r:List Oper) (aZ:List (List Nat)) (dl:List Nat) (a7:List (List Nat)) (xs:List AV) (g:Nat) (cap:List AV):Prop:=(yam (dl.map (base+ ·)) H).all (fun q=>sO (yam (dl.map (base+ ·)) H) q.2)=true/\Qt P N ops base j fr H K o.dst (yam (dl.map (base+ ·)) H) r aZ a7 g (xs++cap)
def awDX (o:Oper) (r:List Oper) (ex:List Nat) (aZ:List (List Nat)) (dl:List Nat) (a7:List (List Nat)):Prop:=match o.op with
 | .store t x y=>mO (stF P H t (evA (bE ex fr) x) (evA (bE ex fr) y)) (kS P N ops base j fr H K o r aZ a7) False
 | .insert t m k v=>mO (inF P H t (evA (bE ex fr) m) (evA (bE ex fr) k) (evA (bE ex fr) v)) (kI P N ops base j fr H K o r aZ a7) False
 | .call {callee:= .builtin .append,args:=args,argTypes:=ts}=>match args.toList,ts.toList with
   |[s,x],[t,t']=>t=t'/\mO (apG P (base+j) H t (evA (bE ex fr) s) (evA (bE ex fr) x)) (kP P N ops base j fr H K o r aZ a7) False
   |_,_=>False
 | .call {callee:= .value f,args:=args, .. }=>mF (evA (ki (yam (dl.map (base+ ·)) H) (bE ex fr)) f) (kC P N ops base j fr H K o r aZ dl a7 (args.toList.map (evA (ki (yam (dl.map (base+ ·)) H) (bE ex fr)))))
 |_=>False
def awDn (o:Oper) (r:List Oper) (ex:List Nat) (aZ:List (List Nat)) (dl:List Nat) (a7:List (List Nat)):Prop:=cvOk P o.op=true/\dok o.dst N=true/\if yc0 o.op then mO (quF P H (evA (bE ex fr)) o.op) (kQ P N ops base j fr H K o r aZ a7) False
    else mO (quF P (yam (dl.map (base+ ·)) H) (evA (ki (yam (dl.map (base+ ·)) H) (bE ex fr))) o.op) (kR P N ops base j fr H K o r aZ dl a7)
     (mO (alF P (base+j) (evA (bE ex fr)) o.op) (kA P N ops base j fr H K o r aZ a7) (awDX P N ops base j fr H K o r ex aZ dl a7))
theorem NL (o:Oper) (r:List Oper) (ex:List Nat) (aZ:List (List Nat)) (dl:List Nat) (a7:List (List Nat)):(awD.awDO P N base j o ex dl fr H fun fr' H'=>awD P N ops base (j+1) r aZ a7 fr' H' K)=awDn P N ops base j fr H K o r ex aZ dl a7:=by
 unfold awD.awDO awDn awDX mO
 split
 ·rcases quF P H (evA (bE ex fr)) o.op with _|⟨p,r⟩<;>rfl
 ·rcases quF P (yam (dl.map (base+ ·)) H) (evA (ki (yam (dl.map (base+ ·)) H) (bE ex fr))) o.op with _|⟨p,r⟩
  ·rcases alF P (base+j) (evA (bE ex fr)) o.op with _|⟨p,r,ob⟩
   ·simp only;generalize o.op=op;cases op<;>try rfl
    case store t x y=>
     simp only;rcases stF P H t (evA (bE ex fr) x) (evA (bE ex fr) y) with _|⟨p,i,ob⟩<;>rfl
    case insert t m k v=>
     simp only;rcases inF P H t (evA (bE ex fr) m) (evA (bE ex fr) k) (evA (bE ex fr) v) with _|⟨p,i,n,x⟩<;>rfl
    case call c=>
     obtain ⟨callee,args,ts⟩:=c;cases callee<;>try rfl
     case builtin b=>
      cases b<;>try rfl
      generalize hl:args.toList=l1;generalize hm:ts.toList=l2;simp only [hl,hm]
      match l1,l2 with
      |[s,x],[t,t']=>
       simp only;rcases apG P (base+j) H t (evA (bE ex fr) s) (evA (bE ex fr) x) with _|⟨p,r,g,ob⟩<;>rfl
      |[],_=>rfl
      |[_],_=>rfl
      |_::_::_::_,_=>rfl
      |[_,_],[]=>rfl
      |[_,_],[_]=>rfl
      |[_,_],_::_::_::_=>rfl
     case value f=>
      simp only [mF,kC];cases evA (ki (yam (dl.map (base+ ·)) H) (bE ex fr)) f<;>first|rfl|(simp only [eq_iff_iff];exact ⟨fun h=>⟨h.1,h.2.1,h.2.2.1,⟨h.2.2.2⟩⟩,fun h=>⟨h.1,h.2.1,h.2.2.1,h.2.2.2.out⟩⟩)
   ·rfl
  ·rfl
def iX (c b:Bool) (o:Oper) (r:List Oper) (ex:List Nat) (aZ:List (List Nat)) (dl:List Nat) (a7:List (List Nat)):Prop:=(c=b->awDn P N ops base j fr H K o r ex aZ dl a7)/\(c= !b->dok o.dst N=true/\awD P N ops base (j+1) r aZ a7 (fput fr o.dst (.tup [])) H K)
section
variable (o:Oper) (r:List Oper) (ex:List Nat) (aZ:List (List Nat)) (dl:List Nat) (a7:List (List Nat))
theorem y8f:iX P N ops base j fr H K true true o r ex aZ dl a7=awDn P N ops base j fr H K o r ex aZ dl a7:=by simp [iX]
theorem y8g:iX P N ops base j fr H K false false o r ex aZ dl a7=awDn P N ops base j fr H K o r ex aZ dl a7:=by simp [iX]
theorem y8h:iX P N ops base j fr H K true false o r ex aZ dl a7=(dok o.dst N=true/\awD P N ops base (j+1) r aZ a7 (fput fr o.dst (.tup [])) H K):=by simp [iX]
theorem y8i:iX P N ops base j fr H K false true o r ex aZ dl a7=(dok o.dst N=true/\awD P N ops base (j+1) r aZ a7 (fput fr o.dst (.tup [])) H K):=by simp [iX]
end
def kG (b:Bool) (o:Oper) (r:List Oper) (ex:List Nat) (aZ:List (List Nat)) (dl:List Nat) (a7:List (List Nat)) (c:Bool):Prop:=iX P N ops base j fr H K c b o r ex aZ dl a7
def kZ (o:Oper) (r:List Oper) (aZ a7:List (List Nat)) (_:Unit):Prop:=dok o.dst N=true/\awD P N ops base (j+1) r aZ a7 (fput fr o.dst (.tup [])) H K
theorem kZ_eq (o:Oper) (r:List Oper) (aZ a7:List (List Nat)) (u:Unit):kZ P N ops base j fr H K o r aZ a7 u=(dok o.dst N=true/\awD P N ops base (j+1) r aZ a7 (fput fr o.dst (.tup [])) H K):=rfl
def awDg (o:Oper) (r:List Oper) (ex:List Nat) (aZ:List (List Nat)) (dl:List Nat) (a7:List (List Nat)):Prop:=match o.guard with
 |none=>awDn P N ops base j fr H K o r ex aZ dl a7
 |some (g,b)=>mG (gval ops (bE ex fr) g) (kG P N ops base j fr H K b o r ex aZ dl a7) (kZ P N ops base j fr H K o r aZ a7)
theorem kQ_eq (o:Oper) (r:List Oper) (aZ a7:List (List Nat)) (p:Prop) (x:AV):kQ P N ops base j fr H K o r aZ a7 p x=(p/\awD P N ops base (j+1) r aZ a7 (fput fr o.dst x) H K):=rfl
theorem kR_eq (o:Oper) (r:List Oper) (aZ:List (List Nat)) (dl:List Nat) (a7:List (List Nat)) (p:Prop) (x:AV):kR P N ops base j fr H K o r aZ dl a7 p x=((yam (dl.map (base+ ·)) H).all (fun q=>sO (yam (dl.map (base+ ·)) H) q.2)=true/\p/\awD P N ops base (j+1) r aZ a7 (fput fr o.dst x) H K):=rfl
theorem kA_eq (o:Oper) (r:List Oper) (aZ a7:List (List Nat)) (p:Prop) (x:AV) (y:AObj):kA P N ops base j fr H K o r aZ a7 p (x,y)=(p/\awD P N ops base (j+1) r aZ a7 (fput fr o.dst x) ((base+j,y)::H) K):=rfl
theorem kS_eq (o:Oper) (r:List Oper) (aZ a7:List (List Nat)) (p:Prop) (x:Nat) (y:AObj):kS P N ops base j fr H K o r aZ a7 p (x,y)=(p/\awD P N ops base (j+1) r aZ a7 (fput fr o.dst .any) (hset H x y) K):=rfl
theorem kI_eq (o:Oper) (r:List Oper) (aZ a7:List (List Nat)) (p:Prop) x y z:kI P N ops base j fr H K o r aZ a7 p (x,y,z)=(p/\awD P N ops base (j+1) r aZ a7 (fput fr o.dst .any) (insE H x y z) K):=rfl
theorem kP_eq (o:Oper) (r:List Oper) (aZ a7:List (List Nat)) (p:Prop) x y z:kP P N ops base j fr H K o r aZ a7 p (x,y,z)=(p/\awD P N ops base (j+1) r aZ a7 (fput fr o.dst x) ((base+j,z)::hgo H y) K):=rfl
theorem kC_eq (o:Oper) (r:List Oper) (aZ:List (List Nat)) (dl:List Nat) (a7:List (List Nat)) (xs:List AV) (g:Nat) (cap:List AV):kC P N ops base j fr H K o r aZ dl a7 xs g cap=((yam (dl.map (base+ ·)) H).all (fun q=>sO (yam (dl.map (base+ ·)) H) q.2)=true/\Qt P N ops base j fr H K o.dst (yam (dl.map (base+ ·)) H) r aZ a7 g (xs++cap)):=rfl
theorem kG_eq (b:Bool) (o:Oper) (r:List Oper) (ex:List Nat) (aZ:List (List Nat)) (dl:List Nat) (a7:List (List Nat)) (c:Bool):kG P N ops base j fr H K b o r ex aZ dl a7 c=(iX P N ops base j fr H K c b o r ex aZ dl a7):=rfl
theorem y8j (e d:List (List Nat)):awD P N ops base j [] e d fr H K=K fr H:=by simp only [awD]
theorem y4r (o:Oper) (r:List Oper) (ex:List Nat) (aZ:List (List Nat)) (dl:List Nat) (a7:List (List Nat)):awD P N ops base j (o::r) (ex::aZ) (dl::a7) fr H K=awDg P N ops base j fr H K o r ex aZ dl a7:=by
 unfold awDg mG kG iX kZ;simp only [awD];rcases o.guard with _|⟨g,b⟩
 ·exact NL P N ops base j fr H K o r ex aZ dl a7
 ·simp only;rcases gval ops (bE ex fr) g with _|_|_|_|_|(_|_)|_|_|_|_|_|_|_<;>first|rfl|(simp only [ns,NL])
end
theorem ag {P:Program} {N:Nat} {ops:Array Oper} {base j:Nat} {fr:Fr} {H:Hp} {K:Fr->Hp->Prop} {c b:Bool} {o:Oper} {r:List Oper} {ex:List Nat} {aZ:List (List Nat)} {dl:List Nat} {a7:List (List Nat)} (h1:c=b->awDn P N ops base j fr H K o r ex aZ dl a7) (h2:c= !b->dok o.dst N=true/\awD P N ops base (j+1) r aZ a7 (fput fr o.dst (.tup [])) H K):iX P N ops base j fr H K c b o r ex aZ dl a7:=⟨h1,h2⟩
section
variable {P:Program} {N base j:Nat} {fr fr':Fr} {H H':Hp}
theorem y0h {ops:Array Oper} {r:List Oper} {e d:List (List Nat)} {j':Nat} {K:Fr->Hp->Prop} (h0:j=j') (h1:fr=fr') (h2:H=H'):awD P N ops base j r e d fr H K=awD P N ops base j' r e d fr' H' K:=by rw [h0,h1,h2]
end
def scV (H:Hp) (x:AV):AV:=if s3 H x then x else .any
def Ma (b:Bool) (x:AV):AV:=if b then .any else x
theorem y8k (H:Hp) (fr:Fr) (t:Nat):fget (ki H fr) t=scV H (fget fr t):=by
 induction fr with
 |nil=>rfl
 |cons p r ih=>
  obtain ⟨s,x⟩:=p;simp only [ki,fget];by_cases h:s=t
  ·simp [h,scV]
  ·simp only [h,if_false];exact ih
theorem y8l (ex:List Nat) (fr:Fr) (t:Nat):fget (bE ex fr) t=Ma (ex.contains t) (fget fr t):=by rw [HJ];rfl
theorem erV_t (x:AV):Ma true x= .any:=rfl
theorem erV_f (x:AV):Ma false x=x:=rfl
attribute [congr] y0h
attribute [go_sem] kZ_eq kQ_eq kR_eq kA_eq kS_eq kI_eq kP_eq kC_eq kG_eq sepF sep2 sepV bne_self_eq_false inF inK inO insE insO yer awDX awDn y8f y8g y8h y8i awDg y8j y4r
attribute [go_sem] yyj y8k y8l erV_t erV_f scV apG apG.n2E hgo yam yc0 loud List.contains_cons List.contains_nil beq_self_eq_true
attribute [go_sem] AObj.cells.injEq Cs.ints.injEq Cs.bools.injEq Cs.lst.injEq AV.int.injEq AV.sl.injEq AV.ro.injEq AV.ptr.injEq AV.agg.injEq AV.tup.injEq AV.str.injEq AV.rp.injEq AV.fn.injEq Prod.mk.injEq List.cons.injEq Int.natCast_add Int.natCast_one Int.natCast_zero Int.natCast_mul Nat.succ_eq_add_one List.length_append List.length_drop List.length_take
structure aM (x y:AV):Prop where
 out: ∀(w:World) (M:Nat->Prop) (ρ:Nat->Addr) (D:Nat->Prop) (v:Value),VR w M ρ D v x->VR w M ρ D v y
theorem aM.refl (x:AV):aM x x:=⟨fun _ _ _ _ _ h=>h⟩
theorem aM.of {x y:AV} (h:x=y):aM x y:=h▸aM.refl x
theorem aM.nils {es:Nat} {c:Cs} (he:0<es) (hc:c.len=0):aM .nils (.ro es 0 c):=⟨fun w M ρ D v h=>by
 have e:=h.bI;subst e;exact .ro es 0 c none 0 (fun _=>undef) (by simp [hc]) (Nat.le_refl _) he (fun h=>by omega) (fun j hj=>by omega)⟩
theorem aM.agg {xs ys:List AV} (hl:xs.length=ys.length) (h: ∀(i:Nat) (x y:AV),xs[i]?=some x->ys[i]?=some y->aM x y):aM (.agg xs) (.agg ys):=⟨fun w M ρ D v hv=>by
 obtain ⟨vs,rfl,qH,hx⟩:=hv.aQ;refine .agg vs ys (qH.trans hl) fun i v y hi hy=>?_;have aA:i<xs.length:=by
  have:=List.getElem?_eq_some_iff.1 hi;obtain ⟨h1,_⟩:=this;omega
 exact (h i xs[i] y (List.getElem?_eq_getElem aA) hy).out w M ρ D v (hx i v _ hi (List.getElem?_eq_getElem aA))⟩
inductive uS:List AV->List AV->Prop where
 |nil:uS [] []
 |cons {x y:AV} {xs ys:List AV}:aM x y->uS xs ys->uS (x::xs) (y::ys)
theorem uS.len {xs ys:List AV} (h:uS xs ys):xs.length=ys.length:=by
 induction h with
 |nil=>rfl
 |cons _ _ ih=>simp [ih]
theorem uS.get {xs ys:List AV} (h:uS xs ys): ∀(i:Nat) (x y:AV),xs[i]?=some x->ys[i]?=some y->aM x y:=by
 induction h with
 |nil=>intro i x y h;cases h
 |cons h1 _ ih=>
  intro i x y hx hy;cases i with
  |zero=>simp only [List.getElem?_cons_zero,Option.some.injEq] at hx hy;subst hx hy;exact h1
  |succ i=>exact ih i x y (by simpa using hx) (by simpa using hy)
theorem aM.j7 {xs ys:List AV} (h:uS xs ys):aM (.agg xs) (.agg ys):= .agg h.len h.get
section
variable {P:Program} {f:Nat} {args:List AV} {r r':AV}
theorem Fn.arg (h:Fn P f args r) {args':List AV} (ha:uS args' args):Fn P f args' r:=
 ⟨h.1,fun w Mx vs h1 h2 h3=>h.2 w Mx vs h1 (h2.trans ha.len) fun i v x hv hx=>by
  have aA:i<args'.length:=by
   have:=List.getElem?_eq_some_iff.1 hv;obtain ⟨g1,_⟩:=this;omega
  exact (ha.get i args'[i] x (List.getElem?_eq_getElem aA) hx).out _ _ _ _ v (h3 i v _ hv (List.getElem?_eq_getElem aA))⟩
def retL (P:Program) (rs:List ResultVar) (r:AV) (e:Exit) (fr:Fr) (H:Hp):Prop:=
 (e= .ret\/e= .normal)/\match resL P fr H rs with
 |some (p,l)=>p/\cE H 6 (yf3 l)/\aM (snap H 6 (yf3 l)) r
 |none=>False
theorem Fn.au {fn:Func} {c:Code} (rs:List ResultVar) (hf:P.funcs[f]?=some fn) (hb:fn.body=some c) (xa:fn.results.toList=rs) (hn:(fn.name== "runtime.NumGoroutine")=false) (hl:args.length<=fn.ntmps/\fn.ntmps<=1000000)
  (h:gq P fn.ntmps c (frOf 0 args) [] (retL P rs r)):Fn P f args r:=by
 subst xa;refine ⟨⟨fn,hf,by rw [hb];rfl,hn⟩,fun w Mx vs gn vD hv=>?_⟩
 have rL:aC w.heap.size ⟨w,fun _=>undef⟩ Mx 0 w ρ0 [] [] {tmps:= #[],defers:=[]}:=
  ⟨Below.refl _ _,Nat.le_refl _,gn.2,(fun id o h=>by cases h),(fun id o h=>by cases h),(fun id o _ _ h=>by cases h),fun t=> .any _,⟨rfl,fun _ hb=>gn.1.later hb⟩,by simp,by omega⟩
 have LO:MM Mx [] ρ0=Mx:=by
  funext x;apply propext;constructor
  ·rintro (g|⟨id,o,g,_⟩)
   ·exact g
   ·cases g
  ·exact Or.inl
 have CK:gu P f args [] [] (fun r' _ H'=>cE H' 6 r'/\aM (snap H' 6 r') r):=by
  refine ⟨fn,c,hf,hb,hn,hl,?_⟩;rw [show frOf 0 args++lft []=frOf 0 args by simp [lft]];refine h.mono fun e fr H hq=>⟨hq.1,?_⟩;have nH:=hq.2;revert nH;cases resL P fr H fn.results.toList with
  |none=>exact fun h=>h
  |some q=>exact fun h=>h
 obtain ⟨_,cY⟩:=EX (P:=P) rL CK vD (fun i v x g1 g2=>by rw [LO];exact (hv i v x g1 g2).D0);refine cY.mono ?_;rintro e w' ⟨v,r',ρ',fr',H',rfl,⟨hp,hle⟩,hs,wY⟩;exact ⟨v,rfl,hs.below,hle.out _ _ _ _ v (Eo hs (My:=Mx) (ρ0:=ρ0) (fun _ h=>h) 6 v r' wY hp)⟩
end
attribute [go_sem] retL
end Go.Proofs.YtphjphpmfflfpaaGreatDoor
