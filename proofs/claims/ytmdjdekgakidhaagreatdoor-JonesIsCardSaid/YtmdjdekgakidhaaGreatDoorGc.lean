/- The author's own program logic: statements that draw their order; results told less exactly. -/
import Derived.Test.YtmdjdekgakidhaaGreatDoorGb
set_option linter.unusedSimpArgs false
set_option linter.unusedVariables false
namespace Go.Proofs.YtmdjdekgakidhaaGreatDoor
open Go Go.RowKit
section
variable {P:Program} {B:Nat} {w0:gU} {Mx:Nat->Prop} {N:Nat} {w:World} {ρ:Nat->Addr} {fr:Fr} {H:Hp} {a:Act}
theorem aA.Bh (h:aA B w0 Mx N w ρ fr H a) {aD:Nat} (hn:hget H aD=none) {w1:gU} {w':World} {ρ':Nat->Addr} {N0:Nat} {a0:Act} {M0:Nat->Prop} {t:Nat} {l:List Int} (pq:w1.w=w) (k:aA w.heap.size w1 M0 N0 w' ρ' [] [(0, .cells t (.ints l))] a0):
  aA B w0 Mx N w' (db ρ aD (ρ' 0)) fr ((aD, .cells t (.ints l))::H) a/\ ∀v es n,VR w' (MM M0 [(0, .cells t (.ints l))] ρ') ρ' (DD [(0, .cells t (.ints l))]) v (.sl es 0 0 n)->VR w' (MM Mx ((aD, .cells t (.ints l))::H) (db ρ aD (ρ' 0))) (db ρ aD (ρ' 0)) (DD ((aD, .cells t (.ints l))::H)) v (.sl es aD 0 n):=by
 have dh:=k.below;rw [pq] at dh;have xi:w.heap.size<=(ρ' 0).block:=(k.own 0 _ rfl rfl).1;have e0:db ρ aD (ρ' 0) aD=ρ' 0:=by simp [db]
 have e1: ∀i,i≠aD->db ρ aD (ρ' 0) i=ρ i:=fun i hi=>by simp [db,hi]
 have cs: ∀i o,hget ((aD, .cells t (.ints l))::H) i=some o->(i=aD/\o= .cells t (.ints l))\/(i≠aD/\hget H i=some o):=fun i o ho=>by
  simp only [hget] at ho;by_cases e:aD=i
  ·rw [if_pos e] at ho;exact .inl ⟨e.symm,(Option.some.inj ho).symm⟩
  ·rw [if_neg e] at ho;exact .inr ⟨fun e'=>e e'.symm,ho⟩
 have ax: ∀i o,hget H i=some o->i≠aD:=fun i o ho e=>by rw [e,hn] at ho;cases ho
 have fQ: ∀i o,hget H i=some o->hget ((aD, .cells t (.ints l))::H) i=some o:=fun i o ho=>by
  simp only [hget];rw [if_neg (fun e=>ax i o ho e.symm)];exact ho
 have Zd: ∀x,x<w.heap.size->MM Mx ((aD, .cells t (.ints l))::H) (db ρ aD (ρ' 0)) x->MM Mx H ρ x:=fun x hx hm=>by
  rcases hm with g|⟨i,o,g1,g2,g3⟩
  ·exact .inl g
  ·rcases cs i o g1 with ⟨rfl,rfl⟩|⟨q1,q2⟩
   ·rw [e0] at g3;omega
   ·rw [e1 i q1] at g3;exact .inr ⟨i,o,q2,g2,g3⟩
 have hold: ∀{v:Value} {x:AV},VR w (MM Mx H ρ) ρ (DD H) v x->VR w' (MM Mx ((aD, .cells t (.ints l))::H) (db ρ aD (ρ' 0))) (db ρ aD (ρ' 0)) (DD ((aD, .cells t (.ints l))::H)) v x:=fun hv=>by
  refine hv.carry dh.size (fun x hx hm=>⟨dh.block x hx,fun g=>hm (Zd x hx g)⟩) (fun i hd=>?_);obtain ⟨o,ho⟩:=hd;exact ⟨⟨o,fQ i o ho⟩,e1 i (ax i o ho),fun arr t ha=>⟨arr,(dh.block _ (eY ha)).trans ha,rfl⟩⟩
 have mX:=k.objs 0 _ rfl;obtain ⟨f1,arr,f2,f3,f4⟩:=mX;refine ⟨⟨h.below.trans (dh.mono h.hB),Nat.le_trans h.hB dh.size,fun x hx=>Nat.lt_of_lt_of_le (h.mx x hx) dh.size,fun i o g1 g2=>?_,fun i o g1=>?_,fun i o i' o' g1 g2 g3 g4 g5=>?_,fun t=>hold (h.frv t),h.defers,h.size⟩,fun v es n hv=>?_⟩
 ·rcases cs i o g1 with ⟨rfl,rfl⟩|⟨q1,q2⟩
  ·rw [e0];exact ⟨Nat.le_trans h.hB xi,fun hx=>by have:=h.mx _ hx;omega⟩
  ·rw [e1 i q1];exact h.own i o q2 g2
 ·rcases cs i o g1 with ⟨rfl,rfl⟩|⟨q1,q2⟩
  ·exact ⟨by rw [e0];exact f1,arr,by rw [e0];exact f2,by rw [e0];exact f3,fun j hj=>let ⟨u,hu,hx⟩:=f4 j hj;⟨u,by rw [e0];exact hu,by obtain rfl:=VR.an (show VR _ _ _ _ u (I (l.getD j 0)) from hx);exact .int _ _⟩⟩
  ·have hr:=h.objs i o q2;cases o with
   |gone=>trivial
   |cells t c=>
    obtain ⟨f1,arr,f2,f3,f4⟩:=hr;exact ⟨by rw [e1 i q1];exact f1,arr,by rw [e1 i q1];exact (dh.block _ (eY f2)).trans f2,by rw [e1 i q1];exact f3,fun j hj=>let ⟨u,hu,hx⟩:=f4 j hj;⟨u,by rw [e1 i q1];exact hu,hold hx⟩⟩
   |gmap t ck l=>
    obtain ⟨es,k1,k2,k3⟩:=hr;exact ⟨es,by rw [e1 i q1];exact (dh.block _ (eY k1)).trans k1,k2,fun j e q he hl=>let ⟨g1,g2,g3⟩:=k3 j e q he hl;⟨g1,g2,hold g3⟩⟩
   |iter mid s sn la=>
    obtain ⟨k1,k2,k3⟩:=hr;obtain ⟨om,px⟩:=k1;exact ⟨⟨om,fQ mid om px⟩,by rw [e1 i q1];exact k2,by rw [e1 i q1,e1 mid (ax mid om px)];exact (dh.block _ (eY k3)).trans k3⟩
   |imap t l=>
    obtain ⟨k0,es,ck,k1,k2,k3⟩:=hr;exact ⟨k0,es,ck,by rw [e1 i q1];exact (dh.block _ (eY k1)).trans k1,k2,fun j e k x he hl=>let ⟨g1,g2,g3⟩:=k3 j e k x he hl;⟨g1,hold g2,g3⟩⟩
   |fmap t c=>
    obtain ⟨k0,es,ck,k1,k2⟩:=hr;exact ⟨k0,es,ck,by rw [e1 i q1];exact (dh.block _ (eY k1)).trans k1,k2⟩
 ·have fresh: ∀i o,hget H i=some o->o.live=true->(ρ i).block<w.heap.size:=fun i o g1 g2=>by
   exact h.jl _ (.inr ⟨i,o,g1,g2,rfl⟩)
  rcases cs i o g1 with ⟨rfl,rfl⟩|⟨q1,q2⟩
  ·rcases cs i' o' g3 with ⟨rfl,rfl⟩|⟨r1,r2⟩
   ·rfl
   ·rw [e0,e1 i' r1] at g5;have:=fresh i' o' r2 g4;omega
  ·rcases cs i' o' g3 with ⟨rfl,rfl⟩|⟨r1,r2⟩
   ·rw [e0,e1 i q1] at g5;have:=fresh i o q2 g2;omega
   ·rw [e1 i q1,e1 i' r1] at g5;exact h.inj i o i' o' q2 g2 r2 g4 g5
 ·cases hv with
  |sl _ _ _ _ cap hd hc arr t2 ad ha hb hr=>
   refine .sl es aD 0 n cap ⟨.cells t (.ints l),by simp [hget]⟩ hc arr t2 ad ?_ ?_ ?_
   ·rw [e0];exact ha
   ·rw [e0];exact hb
   ·rw [e0];exact hr
theorem Ux (h:aA B w0 Mx N w ρ fr H a) {f:Nat} {xs:List AV} {aD:Nat} {K:AV->AObj->Prop} (hc:FJ P f xs H aD K) {vs:List Value} (hl:vs.length=xs.length)
  (hv: ∀(i:Nat) (v:Value) (x:AV),vs[i]?=some v->xs[i]?=some x->VR w (MM Mx H ρ) ρ (DD H) v x):
  lC P f/\Calls P f vs.toArray w fun e w'=> ∃v es n t l ρ' M0,e= .returned v/\K (.sl es aD 0 n) (.cells t (.ints l))/\aA w.heap.size ⟨w,fun _=>undef⟩ M0 0 w' ρ' [] [(0, .cells t (.ints l))] {tmps:= #[],defers:=[]}/\VR w' (MM M0 [(0, .cells t (.ints l))] ρ') ρ' (DD [(0, .cells t (.ints l))]) v (.sl es 0 0 n):=by
 obtain ⟨es,n,t,l,nC,hk⟩:=hc;rcases nC with ⟨hp,cE,hfn⟩|⟨hs,cE,hfn⟩
 ·refine ⟨cE,(hfn w (MM Mx H ρ) vs ⟨h.oc,h.jl⟩ hl fun i v x h1 h2=>(hv i v x h1 h2).kq (List.all_eq_true.1 hp _ (List.mem_of_getElem? h2))).mono ?_⟩;rintro e w' ⟨v,ρ',rfl,bo,hr⟩;exact ⟨v,es,n,t,l,ρ',_,rfl,hk,bo,hr⟩
 ·have sV: ∀(i:Nat) (v:Value) (x:AV),vs[i]?=some v->(xs.map (snap H 6))[i]?=some x->VR w (fun _=>False) ρ0 (fun _=>False) v x:=fun i v x h1 h2=>by
   simp only [List.getElem?_map] at h2;obtain ⟨x',g1,rfl⟩:=Option.map_eq_some_iff.1 h2;exact DY h (fun _ h=>h.elim) 6 v x' (hv i v x' h1 g1) (hs _ (List.mem_of_getElem? g1))
  refine ⟨cE,(hfn w (fun _=>False) vs ⟨h.oc,fun _ h=>h.elim⟩ (by simpa using hl) sV).mono ?_⟩;rintro e w' ⟨v,ρ',rfl,bo,hr⟩;exact ⟨v,es,n,t,l,ρ',_,rfl,hk,bo,hr⟩
end
theorem Pl {ops:Array Oper} {es:Nat->Ent}: ∀(d j:Nat) (fr:Fr),l8 ops es j fr (d+1)=fput (l8 ops es j fr d) (fb ops (j+d)) (es (j+d)).val
 |0,j,fr=>rfl
 |d+1,j,fr=>by
  have:=Pl (ops:=ops) (es:=es) d (j+1) (fput fr (fb ops j) (es j).val)
  simp only [l8] at this⊢;rw [this,show j+1+d=j+(d+1) by omega]
theorem NZ {base:Nat} {es:Nat->Ent}: ∀(d j:Nat) (H:Hp),hI base es j H (d+1)=(es (j+d)).eff (base+(j+d)) (hI base es j H d)
 |0,j,H=>rfl
 |d+1,j,H=>by
  have:=NZ (base:=base) (es:=es) d (j+1) ((es j).eff (base+j) H)
  simp only [hI] at this⊢;rw [this,show j+1+d=j+(d+1) by omega]
theorem zV {ops:Array Oper} {es:Nat->Ent} (fr:Fr): ∀k,l8 ops es 0 fr k=frS ops es fr (fun _=>true) k
 |0=>rfl
 |k+1=>by rw [Pl,zV fr k];simp [frS]
theorem zn {base:Nat} {es:Nat->Ent} (H:Hp): ∀k,hI base es 0 H k=hS base es H (fun _=>true) k
 |0=>rfl
 |k+1=>by rw [NZ,zn H k];simp [hS]
def x9 (ops:Array Oper) (E:Nat->Bool):Prop:= ∀j,E j=true-> ∀i∈nq (ops.getD j default),E i=true
theorem Of {ops:Array Oper}: ∀(l:List Oper) (fO:List (List Nat)),l=ops.toList.drop fO.length->(∀k i,i∈fO.getD k []-> ∀E,x9 ops E->(∀e∈nq (ops.getD k default),E e=true)->E i=true)->
  ∀k i,i∈(ancs l fO).getD k []-> ∀E,x9 ops E->(∀e∈nq (ops.getD k default),E e=true)->E i=true
 |[],fO,_,h=>h
 |o::l,fO,hl,h=>by
  simp only [ancs];have ax:fO.length<ops.size:=by
   have:=congrArg List.length hl;simp at this;omega
  have ho:o=ops.getD fO.length default:=by
   have:=congrArg (fun x=>x[0]?) hl
   simp [ax] at this;simpa [ax] using this
  refine Of l _ ?_ ?_
  ·have:=congrArg List.tail hl
   simp only [List.tail_cons,List.tail_drop] at this;rw [this];simp
  ·intro k i hi E hE hk;by_cases fx:k<fO.length
   ·have e:(fO++[((nq o).flatMap fun i=>i::fO.getD i []).eraseDups]).getD k []=fO.getD k []:=by
     simp [List.getElem?_append_left fx]
    rw [e] at hi;exact h k i hi E hE hk
   ·by_cases YK:k=fO.length
    ·subst YK;have e:(fO++[((nq o).flatMap fun i=>i::fO.getD i []).eraseDups]).getD fO.length []=((nq o).flatMap fun i=>i::fO.getD i []).eraseDups:=by simp
     rw [e,List.mem_eraseDups,List.mem_flatMap] at hi;obtain ⟨x,hx,yR⟩:=hi;rw [ho] at hx;have TG:=hk x hx;rcases List.mem_cons.1 yR with rfl|yR
     ·exact TG
     ·exact h x i yR E hE (hE x TG)
    ·have e:(fO++[((nq o).flatMap fun i=>i::fO.getD i []).eraseDups]).getD k []=[]:=by
      rw [zzB,List.getElem?_eq_none (by simp;omega)];rfl
     rw [e] at hi;cases hi
theorem F8 {ops:Array Oper} {E:Nat->Bool} (hE:x9 ops E) {k i:Nat} (hi:((gT ops).getD k []).contains i=true) (hk: ∀e∈nq (ops.getD k default),E e=true):E i=true:=
 Of ops.toList [] (by simp) (fun k i h=>by simp at h) k i (List.contains_iff_mem.1 hi) E hE hk
structure MO (ops:Array Oper) (ex dl:List (List Nat)):Prop where
 slot: ∀i j,i<ops.size->j<ops.size->i≠j->((gT ops).getD j []).contains i=true\/((gT ops).getD i []).contains j=true\/ ∀d,fb ops i=some d->(ex.getD j []).contains d=true
 new: ∀i j,i<ops.size->j<ops.size->i<j->((gT ops).getD j []).contains i=true\/(dl.getD j []).contains i=true
 lo: ∀i j,i<ops.size->j<ops.size->i≠j->yco (ops.getD i default).op=false->loud (ops.getD i default).op=false->loud (ops.getD j default).op=true->((gT ops).getD j []).contains i=true
 lolo: ∀i j,i<ops.size->j<ops.size->i≠j->loud (ops.getD i default).op=true->loud (ops.getD j default).op=true->((gT ops).getD j []).contains i=true\/((gT ops).getD i []).contains j=true\/(yej (ops.getD i default).op=true/\yej (ops.getD j default).op=true)\/sB ops (ops.getD i default).op (ops.getD j default).op=true
 ins: ∀i j,i<ops.size->j<ops.size->i≠j->yej (ops.getD i default).op=true->loud (ops.getD j default).op=true->yej (ops.getD j default).op=true
 same: ∀i j,i<ops.size->j<ops.size->i≠j-> ∀d,fb ops i=some d->fb ops j=some d->((gT ops).getD j []).contains i=true\/((gT ops).getD i []).contains j=true
 lt: ∀i j,i<ops.size->j<ops.size->((gT ops).getD j []).contains i=true->i<j
 elt: ∀j,j<ops.size-> ∀e∈nq (ops.getD j default),e<j
theorem Sl {ops:Array Oper} {ex dl:List (List Nat)} (h:CO ops ex dl=true):MO ops ex dl:=by
 have h0: ∀i j,i<ops.size->j<ops.size->_:=fun i j hi hj=>List.all_eq_true.1 (List.all_eq_true.1 h j (by simpa using hj)) i (by simpa using hi);simp only [Bool.and_eq_true,Bool.or_eq_true,beq_iff_eq,Bool.not_eq_true',decide_eq_true_eq,decide_eq_false_iff_not,bne_iff_ne,CO.before0,List.all_eq_true] at h0
 refine ⟨fun i j hi hj av=>?_,fun i j hi hj ax=>?_,fun i j hi hj av h1 h2 h3=>?_,fun i j hi hj av h1 h2=>?_,fun i j hi hj av h1 h2=>?_,fun i j hi hj av d h1 h2=>?_,fun i j hi hj h1=>?_,fun j hj e he=>?_⟩
 ·have:=h0 i j hi hj
  rcases this.1.1 with g|g
  ·exact absurd g av
  ·rcases g.1.1.1.1.1 with (g1|g1)|g1
   ·exact .inl g1
   ·exact .inr (.inl g1)
   ·refine .inr (.inr fun d hd=>?_);unfold fb at hd;rw [hd] at g1;exact g1
 ·have:=h0 i j hi hj
  rcases this.1.1 with g|g
  ·omega
  ·rcases g.1.1.1.1.2 with (g1|g1)|g1
   ·exact .inl g1
   ·omega
   ·exact .inr g1
 ·have:=h0 i j hi hj
  rcases this.1.1 with g|g
  ·exact absurd g av
  ·rcases g.1.1.1.2 with ((g1|g1)|g1)|g1
   ·rw [h1] at g1;cases g1
   ·rw [h3] at g1;cases g1
   ·exact g1
   ·rw [h2] at g1;cases g1
 ·have:=h0 i j hi hj
  rcases this.1.1 with g|g
  ·exact absurd g av
  ·rcases g.1.1.2 with ((((g1|g1)|g1)|g1)|g1)|g1
   ·rw [h1] at g1;cases g1
   ·rw [h2] at g1;cases g1
   ·exact .inl g1
   ·exact .inr (.inl g1)
   ·exact .inr (.inr (.inl g1))
   ·exact .inr (.inr (.inr g1))
 ·have:=h0 i j hi hj
  rcases this.1.1 with g|g
  ·exact absurd g av
  ·rcases g.1.2 with (g1|g1)|g1
   ·rw [h1] at g1;cases g1
   ·rw [h2] at g1;cases g1
   ·exact g1
 ·have:=h0 i j hi hj
  unfold fb at h1 h2;rcases this.1.1 with g|g
  ·exact absurd g av
  ·rcases g.2 with ((g1|g1)|g1)|g1
   ·exact .inl g1
   ·exact .inr g1
   ·rw [h1,h2] at g1;exact absurd rfl g1
   ·rw [h1] at g1;cases g1
 ·have:=h0 i j hi hj
  rcases this.1.2 with g|g
  ·rw [h1] at g;cases g
  ·exact g
 ·exact (h0 j j hj hj).2 e he
def cntE (E:Nat->Bool):Nat->Nat
 |0=>0
 |k+1=>cntE E k+if E k then 1 else 0
theorem Oe (E:Nat->Bool): ∀k,cntE E k<=k
 |0=>zzA _
 |k+1=>by have:=Oe E k;simp only [cntE];split<;>omega
theorem Pk {E:Nat->Bool}: ∀k,cntE E k=k-> ∀i,i<k->E i=true
 |0,_,i,hi=>by omega
 |k+1,h,i,hi=>by
  have hk:=Oe E k;simp only [cntE] at h;by_cases hE:E k=true
  ·rw [if_pos hE] at h;by_cases e:i=k
   ·rw [e];exact hE
   ·exact Pk k (by omega) i (by omega)
  ·rw [if_neg hE] at h;omega
theorem Pj {E E':Nat->Bool} {j:Nat} (h0:E j=false) (h1:E' j=true) (h: ∀i,i≠j->E' i=E i): ∀k,cntE E' k=cntE E k+if j<k then 1 else 0
 |0=>by simp [cntE]
 |k+1=>by
  have ih:=Pj h0 h1 h k;simp only [cntE,ih];by_cases e:k=j
  ·subst e;simp [h0,h1]
  ·rw [h k e];generalize (if E k=true then 1 else 0)=z;by_cases n7:j<k
   ·rw [if_pos n7,if_pos (show j<k+1 by omega)];omega
   ·rw [if_neg n7,if_neg (show¬j<k+1 by omega)];omega
theorem vq (n k:Nat):(Array.replicate n false).getD k false=false:=by by_cases hk:k<n<;>simp [hk]
section
variable {P:Program} {B:Nat} {w0:gU} {Mx:Nat->Prop} {N:Nat} {ops:Array Oper} {base:Nat} {ex dl:List (List Nat)} {es:Nat->Ent} {fr0:Fr} {H0:Hp}
theorem U7 {E E':Nat->Bool} {j n:Nat} (hj:j<n) (h1:E' j=true) (h: ∀i,i≠j->E' i=E i) (gG: ∀i,j<i->i<n->E i=true-> ∀d,fb ops i=some d->fb ops j≠some d) (t:Nat):
  fget (frS ops es fr0 E' n) t=fget (fput (frS ops es fr0 E n) (fb ops j) (es j).val) t:=by
 by_cases hd:fb ops j=some t
 ·have e2:fget (fput (frS ops es fr0 E n) (fb ops j) (es j).val) t=(es j).val:=by rw [hd];simp [fput,fget]
  rw [e2]
  have: ∀k,j<k->k<=n->fget (frS ops es fr0 E' k) t=(es j).val:=by
   intro k
   induction k with
   |zero=>intro h;omega
   |succ k ih=>
    intro hk s8;simp only [frS];by_cases e:k=j
    ·subst e;rw [if_pos h1,hd];simp [fput,fget]
    ·have KR:=ih (by omega) (by omega)
     split
     ·rename_i hE
      rw [h k e] at hE;have av:=gG k (by omega) (by omega) hE;cases hk':fb ops k with
      |none=>exact KR
      |some d=>
       have:d≠t:=fun e'=>av d hk' (by rw [hd,e'])
       simp only [fput,fget,this,if_false];exact KR
     ·exact KR
  exact this n hj (zzA _)
 ·have e2:fget (fput (frS ops es fr0 E n) (fb ops j) (es j).val) t=fget (frS ops es fr0 E n) t:=by
   cases hk:fb ops j with
   |none=>rfl
   |some d=>simp only [fput,fget];rw [if_neg (fun e=>hd (by rw [hk,e]))]
  rw [e2];exact EC n fun i _ hi=>h i (fun e=>hd (by rw [←e];exact hi))
theorem Od {H:Hp} {t:Nat} {m k v:AV} {p:Prop} {id:Nat} {n x:Int} (h:inF P H t m k v=some (p,id,n,x)) (hp:p):
  ∃kt et,tk P t= .map kt et/\tk P kt= .int .i64/\m= .mp id/\k= .int .i64 n/\v= .int .i64 x/\ ∃t' g,hget H id=some (.fmap t' (.ints g))/\g n=none:=by
 unfold inF at h
 split at h
 ·rename_i kt et c7
  unfold inK at h
  split at h
  ·rename_i fx
   unfold inO at h
   split at h
   ·rename_i t' g hg
    cases h;exact ⟨kt,et,c7,fx,rfl,rfl,rfl,t',g,hg,hp⟩
   ·cases h
  ·cases h
 ·cases h
def kdO:Option AObj->Option Nat
 |some (.fmap t (.ints _))=>some t
 |_=>none
def sU (H:Hp) (id:Nat):Option Nat:=kdO (hget H id)
def FC (n:Int):Option AObj->Option Int
 |some (.fmap _ (.ints g))=>g n
 |_=>none
def xD (H:Hp) (id:Nat) (n:Int):Option Int:=FC n (hget H id)
theorem V2 {H:Hp} {id t:Nat} (h:sU H id=some t): ∃g,hget H id=some (.fmap t (.ints g)):=by
 unfold sU kdO at h
 split at h
 ·rename_i t' g hg;cases h;exact ⟨g,hg⟩
 ·cases h
theorem tI (H:Hp) (bC:Nat) (n' x':Int) (i:Nat):hget (insE H bC n' x') i=if i=bC then (match hget H i with|some (.fmap t (.ints g))=>some (.fmap t (.ints (updI g n' x')))|q=>q) else hget H i:=by
 unfold insE insO;by_cases e:i=bC
 ·subst e;rw [if_pos rfl]
  split
  ·rename_i t g hg;rw [sQ hg,hg]
  ·rename_i cK
   split
   ·rename_i t g hg;exact absurd hg (cK t g)
   ·rfl
 ·rw [if_neg e]
  split
  ·rw [iE (Ne.symm e)]
  ·rfl
theorem GS (H:Hp) (bC:Nat) (n' x':Int) (id:Nat):sU (insE H bC n' x') id=sU H id:=by
 unfold sU;rw [tI]
 split
 ·split
  ·rename_i t g hg;rw [hg];rfl
  ·rfl
 ·rfl
theorem V1 {H:Hp} {id t:Nat} {g:Int->Option Int} {n x:Int} (h:hget H id=some (.fmap t (.ints g))):xD (insE H id n x) id n=some x:=by
 unfold xD;rw [tI,if_pos rfl,h];simp [FC,updI]
theorem U6 {H:Hp} {id bC:Nat} {n n' x':Int} (h:(xD H id n).isSome=true):(xD (insE H bC n' x') id n).isSome=true:=by
 unfold xD at h⊢;rw [tI]
 split
 ·split
  ·rename_i t g hg
   rw [hg] at h;simp only [FC,updI] at h⊢
   split
   ·rfl
   ·exact h
  ·exact h
 ·exact h
theorem Xp {H1 H2:Hp} {id bC:Nat} {n n' x x':Int} (h: ∀i,hget H1 i=hget (insE H2 id n x) i) (hd:bC≠id\/n'≠n) (i:Nat):hget (insE H1 bC n' x') i=hget (insE (insE H2 bC n' x') id n x) i:=by
 rw [tI H1,tI (insE H2 bC n' x'),tI H2 bC n' x',h i,tI H2];by_cases e1:i=id
 ·by_cases e2:i=bC
  ·have hn:n'≠n:=by rcases hd with g|g<;>first|exact g|(exfalso;exact g (by omega))
   simp only [if_pos e1,if_pos e2];cases hq:hget H2 i with
   |none=>rfl
   |some ob=>
    cases ob with
    |fmap t c=>
     cases c with
     |ints g=>
      have:updI (updI g n x) n' x'=updI (updI g n' x') n x:=by
       funext q;simp only [updI];by_cases q1:q=n'
       ·have q2:q≠n:=fun e=>hn (q1.symm.trans e);rw [if_pos q1,if_neg q2,if_pos q1]
       ·rw [if_neg q1];by_cases q2:q=n
        ·rw [if_pos q2,if_pos q2]
        ·rw [if_neg q2,if_neg q2,if_neg q1]
      simp only [this]
     |bools g=>rfl
     |pairs g=>rfl
    |_=>rfl
  ·simp only [if_pos e1,if_neg e2]
 ·by_cases e2:i=bC
  ·simp only [if_neg e1,if_pos e2]
  ·simp only [if_neg e1,if_neg e2]
theorem vn (H:Hp) (id:Nat) (ob:AObj) (i:Nat):hget (hset H id ob) i=if id=i then (hget H i).map (fun _=>ob) else hget H i:=by
 by_cases e:id=i
 ·subst e;rw [if_pos rfl]
  induction H with
  |nil=>rfl
  |cons q r ih=>
   obtain ⟨k,o⟩:=q;simp only [hset,hget];by_cases e:k=id
   ·simp [e,hget]
   ·simp only [e,if_false,hget];exact ih
 ·rw [if_neg e,iE e]
theorem Xo (e:Ent) (aD:Nat) {H1 H2:Hp} {id:Nat} (h:hget H1 id=hget H2 id):hget (e.eff aD H1) id=hget (e.eff aD H2) id:=by
 cases e with
 |skip=>exact h
 |quiet r=>exact h
 |alloc r ob=>simp only [Ent.eff,hget];rw [h]
 |store i ob=>simp only [Ent.eff];rw [vn,vn,h]
 |app r g ob=>
  simp only [Ent.eff,hget]
  split
  ·rfl
  ·cases g with
   |none=>exact h
   |some i=>simp only [hgo];rw [vn,vn,h]
 |ins i n x=>simp only [Ent.eff];rw [tI,tI,h]
theorem Kq {ops:Array Oper} {es:Nat->Ent} {fr0:Fr} {d:Nat} (h:qO ops d=true) {E:Nat->Bool}: ∀k,k<=ops.size->fget (frS ops es fr0 E k) d=fget fr0 d:=by
 intro k
 induction k with
 |zero=>intro _;rfl
 |succ k ih=>
  intro hk;have cB:=ih (by omega);simp only [frS]
  split
  ·have av:fb ops k≠some d:=by
    unfold qO at h
    have:=List.all_eq_true.1 h (ops.getD k default) (by
     have:ops.getD k default=ops[k]'(by omega):=by simp [show k<ops.size by omega]
     rw [this];simp)
    simpa [fb] using this
   cases hd:fb ops k with
   |none=>simp only [fput];exact cB
   |some q=>
    simp only [fput,fget];rw [if_neg (fun e=>av (by rw [hd,e]))];exact cB
  ·exact cB
theorem Oc {ops:Array Oper} {es:Nat->Ent} {fr0:Fr} {i t a id:Nat} {x y:Operand} {z:AV} {p:Prop} {ob:AObj} {H:Hp} {l:List Nat} {op:Op} (ho:op= .store t x y) (ha:stP op=some a) (hu:qO ops a=true) (aY:stF P H t (evA (bN l (frS ops es fr0 (fun _=>true) i)) x) z=some (p,id,ob)) (hi:i<=ops.size:=by omega): ∃off,fget fr0 a= .ptr id off:=by
 subst ho;cases x with
 |tmp d=>
  simp only [stP,Option.some.injEq] at ha;subst ha;simp only [evA] at aY
  split at aY
  ·rw [HK] at aY
   split at aY
   ·simp [stF] at aY
   ·rw [Kq hu i hi] at aY;unfold stF at aY
    split at aY
    ·rename_i bC off hq
     split at aY
     ·split at aY
      ·split at aY
       ·cases aY;exact ⟨off,hq⟩
       ·cases aY
      ·cases aY
     ·cases aY
    ·cases aY
  ·simp [stF] at aY
 |_=>simp [stP] at ha
theorem Xn {H1 H2:Hp} {t:Nat} {x y:AV} {p:Prop} {id:Nat} {ob:AObj} (h:stF P H2 t x y=some (p,id,ob)) (e:hget H1 id=hget H2 id):stF P H1 t x y=stF P H2 t x y:=by
 unfold stF at h⊢;cases x with
 |ptr i off=>
  simp only at h⊢
  have:i=id:=by
   split at h
   ·split at h
    ·split at h
     ·cases h;rfl
     ·cases h
    ·cases h
   ·cases h
  subst this;rw [e]
 |_=>rfl
theorem Xm (hc:MO ops ex dl) (rh: ∀i j a b,i<ops.size->j<ops.size->i≠j->((gT ops).getD j []).contains i=false->((gT ops).getD i []).contains j=false->stP (ops.getD i default).op=some a->stP (ops.getD j default).op=some b->qO ops a=true->qO ops b=true->a≠b->sep2 fr0 a b=true) (hb: ∀i,base<=i->hget H0 i=none) (fZ: ∀j,j<ops.size->es j= .skip\/sA P ops base ex dl j (ops.getD j default) (frS ops es fr0 (fun _=>true) j) (hS base es H0 (fun _=>true) j) (es j))
  {E:Nat->Bool} (hE:x9 ops E) (Zj: ∀i,E i=true->i<ops.size) {j:Nat} (hj:j<ops.size) (je:dok (fb ops j) N=true) (ga:sA P ops base ex dl j (ops.getD j default) (frS ops es fr0 (fun _=>true) j) (hS base es H0 (fun _=>true) j) (es j)) (oN:E j=false) (hr: ∀e∈nq (ops.getD j default),E e=true) {w:World} {ρ:Nat->Addr} {a:Act}
  (hs:aA B w0 Mx N w ρ (frS ops es fr0 E ops.size) (hS base es H0 E ops.size) a) {E':Nat->Bool} (h1:E' j=true) (h2: ∀i,i≠j->E' i=E i) (Q:Exit->Act->World->Prop) (K:Act->World->Prop)
  (hK: ∀a' w' ρ',aA B w0 Mx N w' ρ' (frS ops es fr0 E' ops.size) (hS base es H0 E' ops.size) a'->K a' w'):wpOp P ops Q j K a w:=by
 have Yy:ops[j]?=some (ops.getD j default):=by simp [hj]
 have fH:(ops.getD j default).dst=fb ops j:=rfl;generalize gP:ops.getD j default=o at*;have iT: ∀i,((gT ops).getD j []).contains i=true->E i=true:=fun i hi=>F8 hE hi (by rw [gP];exact hr);have jB: ∀i,((gT ops).getD i []).contains j=true->E i=false:=fun i hi=>by
  cases l7:E i with
  |false=>rfl
  |true=>have:=F8 hE hi (hE i l7);rw [oN] at this;cases this
 have gG: ∀i,j<i->i<ops.size->E i=true-> ∀d,fb ops i=some d->fb ops j≠some d:=fun i hji gQ l7 d y9 xd=>by
  rcases hc.same i j gQ hj (by omega) d y9 xd with g|g
  ·have:=hc.lt i j gQ hj g;omega
  ·rw [jB i g] at l7;cases l7
 have dx:=U7 (es:=es) (fr0:=fr0) hj h1 h2 gG;have LO: ∀t,fget (bN (bU ex j) (frS ops es fr0 (fun _=>true) j)) t= .any\/fget (bN (bU ex j) (frS ops es fr0 (fun _=>true) j)) t=fget (frS ops es fr0 E ops.size) t:=fun t=>by
  rw [HK];by_cases hx:(bU ex j).contains t=true
  ·rw [if_pos hx];exact .inl rfl
  ·rw [if_neg hx];right;rw [←Sm (ops:=ops) (es:=es) (fr0:=fr0) (j:=j) (E:=fun i=>decide (i<j)) (fun _=>rfl) ops.size (by omega)];refine EC ops.size fun i hi hd=>?_;by_cases e:i=j
   ·subst e;simp [oN]
   ·rcases hc.slot i j hi hj e with g|g|g
    ·have:=hc.lt i j hi hj g;simp [this,iT i g]
    ·have:=hc.lt j i hj hi g;simp [show¬i<j by omega,jB i g]
    ·exact absurd (g t hd) hx
 have eH:=hs.vr LO;have mK:wj ops o (bN (bU ex j) (frS ops es fr0 (fun _=>true) j))->Region.wanted o (yielded ops a.tmps)=true:=fun hw=>by
  rcases hw with hg|⟨g,b,hg,hv⟩
  ·simp [Region.wanted,hg]
  ·simp [Region.wanted,hg,EE eH hv]
 unfold wpOp;rw [Yy];simp only;have vL:yco o.op=false->loud o.op=false->(∀i,E i=true->(es i).pj=false)/\ ∀i,i<j->(es i).pj=false:=fun gB hl=>by
  have key: ∀i,i<ops.size->(es i).pj=true->((gT ops).getD i []).contains j=true/\i≠j:=fun i hi he=>by
   have bZ:=fZ i hi;have nD:loud (ops.getD i default).op=true:=by
    cases hk:es i with
    |store id ob=>replace bZ:=bZ.resolve_left (by rw [hk];intro h;cases h);rw [hk] at bZ;exact bZ.2.2.1
    |app r g ob=>replace bZ:=bZ.resolve_left (by rw [hk];intro h;cases h);rw [hk] at bZ;exact bZ.2.2.1
    |ins id n x=>replace bZ:=bZ.resolve_left (by rw [hk];intro h;cases h);rw [hk] at bZ;exact bZ.2.2.1
    |_=>rw [hk] at he;cases he
   have av:i≠j:=fun e=>by subst e;rw [gP,hl] at nD;cases nD
   exact ⟨hc.lo j i hj hi (Ne.symm av) (by rw [gP];exact gB) (by rw [gP];exact hl) nD,av⟩
  refine ⟨fun i l7=>?_,fun i fG=>?_⟩
  ·cases he:(es i).pj with
   |false=>rfl
   |true=>have:=jB i (key i (Zj i l7) he).1;rw [l7] at this;cases this
  ·cases he:(es i).pj with
   |false=>rfl
   |true=>have:=hc.lt j i hj (by omega) (key i (by omega) he).1;omega
 have BW:loud o.op=true->yej o.op=false->stP o.op=none->hS base es H0 E ops.size=hS base es H0 (fun _=>true) j/\hS base es H0 E' ops.size=(es j).eff (base+j) (hS base es H0 (fun _=>true) j):=fun hl sZ yY=>by
  have key: ∀i,i<ops.size->i≠j->(∀H,(es i).eff (base+i) H=H)\/(E i=true/\i<j)\/(E i=false/\j<i):=fun i hi e=>by
   have bZ:=fZ i hi;cases hk:es i with
   |skip=>left;intro H;rfl
   |quiet r=>left;intro H;rfl
   |alloc r mH=>
    replace bZ:=bZ.resolve_left (by rw [hk];intro h;cases h);rw [hk] at bZ
    have:=hc.lo i j hi hj e bZ.2.1 bZ.2.2.1 (by rw [gP];exact hl)
    exact .inr (.inl ⟨iT i this,hc.lt i j hi hj this⟩)
   |store bC mH=>
    replace bZ:=bZ.resolve_left (by rw [hk];intro h;cases h);rw [hk] at bZ;rcases hc.lolo i j hi hj e bZ.2.2.1 (by rw [gP];exact hl) with g|g|g|g
    ·exact .inr (.inl ⟨iT i g,hc.lt i j hi hj g⟩)
    ·exact .inr (.inr ⟨jB i g,hc.lt j i hj hi g⟩)
    ·rw [gP,sZ] at g;cases g.2
    ·unfold sB at g;rw [gP,yY] at g;unfold u4 at g
     split at g
     ·rename_i h';cases h'
     ·cases g
   |app r g' mH=>
    replace bZ:=bZ.resolve_left (by rw [hk];intro h;cases h);rw [hk] at bZ;rcases hc.lolo i j hi hj e bZ.2.2.1 (by rw [gP];exact hl) with g|g|g|g
    ·exact .inr (.inl ⟨iT i g,hc.lt i j hi hj g⟩)
    ·exact .inr (.inr ⟨jB i g,hc.lt j i hj hi g⟩)
    ·rw [gP,sZ] at g;cases g.2
    ·unfold sB at g;rw [gP,yY] at g;unfold u4 at g
     split at g
     ·rename_i h';cases h'
     ·cases g
   |ins bC n' x'=>
    replace bZ:=bZ.resolve_left (by rw [hk];intro h;cases h);rw [hk] at bZ;rcases hc.lolo i j hi hj e bZ.2.2.1 (by rw [gP];exact hl) with g|g|g|g
    ·exact .inr (.inl ⟨iT i g,hc.lt i j hi hj g⟩)
    ·exact .inr (.inr ⟨jB i g,hc.lt j i hj hi g⟩)
    ·rw [gP,sZ] at g;cases g.2
    ·unfold sB at g;rw [gP,yY] at g;unfold u4 at g
     split at g
     ·rename_i h';cases h'
     ·cases g
  refine ⟨?_,?_⟩
  ·rw [←FH (base:=base) (es:=es) (H0:=H0) (j:=j) (E:=fun i=>decide (i<j)) (fun _=>rfl) ops.size (by omega)];refine yz ops.size fun i hi=>?_;by_cases e:i=j
   ·subst e;right;simp [oN]
   ·rcases key i hi e with g|⟨g1,g2⟩|⟨g1,g2⟩
    ·exact .inl g
    ·right;simp [g1,g2]
    ·right;simp [g1,show¬i<j by omega]
  ·have e1:hS base es H0 (fun _=>true) (j+1)=(es j).eff (base+j) (hS base es H0 (fun _=>true) j):=by simp [hS]
   rw [←e1,←FH (base:=base) (es:=es) (H0:=H0) (j:=j+1) (E:=fun i=>decide (i<j+1)) (fun _=>rfl) ops.size (by omega)];refine yz ops.size fun i hi=>?_;by_cases e:i=j
   ·subst e;right;simp [h1]
   ·rw [h2 i e];rcases key i hi e with g|⟨g1,g2⟩|⟨g1,g2⟩
    ·exact .inl g
    ·right;simp [g1,show i<j+1 by omega]
    ·right;simp [g1,show¬i<j+1 by omega]
 cases gk:es j with
 |skip=>
  rw [gk] at ga;obtain ⟨g,b,hg,hv⟩:=ga;have hw: ¬Region.wanted o (yielded ops a.tmps)=true:=by
   rcases hv with hv|hv
   ·have hy:=EE eH hv;simp [Region.wanted,hg,hy]
   ·have hy:=Ia eH hv;simp [Region.wanted,hg,hy]
  rw [if_neg hw];refine hK _ _ ρ ((hs.put (d:=o.dst) (by rw [fH];exact je) (.tup [] [] rfl (fun i v x h=>by simp at h))).congr (fun t=>by rw [dx t,fH,gk];rfl) (fun i=>?_));rw [yz (E:=E') (E':=E) ops.size fun i _=>by
   by_cases e:i=j
   ·left;subst e;intro H;rw [gk];rfl
   ·right;exact h2 i e]
 |quiet r=>
  rw [gk] at ga;obtain ⟨hw,nH,hq⟩:=ga;have um: ∀s d x,o.op= .convert s d x-> ∃e,P.underlying s=some e:=fun s d x ho=>by
   rw [ho] at nH;simp only [cvOk] at nH;cases hu:P.underlying s with
   |some e=>exact ⟨e,rfl⟩
   |none=>simp [tk,hu] at nH
  have Zi:hS base es H0 E' ops.size=hS base es H0 E ops.size:=yz ops.size fun i _=>by
   by_cases e:i=j
   ·left;subst e;intro H;rw [gk];rfl
   ·right;exact h2 i e
  have dY: ∀(w':World) (v:Value),aA B w0 Mx N w' ρ (frS ops es fr0 E ops.size) (hS base es H0 E ops.size) a->VR w' (MM Mx (hS base es H0 E ops.size) ρ) ρ (DD (hS base es H0 E ops.size)) v r->K (a.put o.dst v) w':=fun w' v bo hv=>
   hK _ _ ρ ((bo.put (d:=o.dst) (by rw [fH];exact je) hv).congr (fun t=>by rw [dx t,fH,gk];rfl) (fun i=>by rw [Zi]))
  rw [if_pos (mK hw)];left;rcases hq with ⟨gB,p,oC,hp⟩|⟨gB,hl,BF,hq⟩
  ·rw [T5 (H':=hS base es H0 E ops.size) gB] at oC;obtain ⟨v,aF,hv⟩:=Et (P:=P) eH.objs eH.ev um oC hp;unfold Oper.wp;rw [aF];exact dY w v hs hv
  ·obtain ⟨yP,KO⟩:=vL gB hl;have dX: ∀i ob,hget (yap (di base dl j) (hS base es H0 (fun _=>true) j)) i=some ob->hget (hS base es H0 E ops.size) i=some ob:=fun i ob hi=>by
    rw [Qp] at hi
    split at hi
    ·cases hi
    ·rename_i hnd
     rw [u3 hb j (fun i hi _=>KO i hi)] at hi;rw [u3 hb ops.size (fun i _ l7=>yP i l7)]
     split at hi
     ·rename_i hcnd
      have gQ:E (i-base)=true:=by
       rcases hc.new (i-base) j (by omega) hj hcnd.2.1 with g|g
       ·exact iT _ g
       ·exfalso;apply hnd;rw [List.contains_iff_mem];exact List.mem_map.2 ⟨i-base,List.contains_iff_mem.1 g,by omega⟩
      rw [if_pos ⟨hcnd.1,by omega,gQ,hcnd.2.2.2⟩];exact hi
     ·rename_i hcnd
      by_cases hib:base<=i
      ·rw [hb i hib] at hi;cases hi
      ·rw [if_neg (fun h=>hib h.1)];exact hi
   obtain ⟨My,Fs,tV⟩:=hs.sub dX (fun i ob hi=>List.all_eq_true.1 BF _ (Hx hi)) (fr':=jT (yap (di base dl j) (hS base es H0 (fun _=>true) j)) (bN (bU ex j) (frS ops es fr0 (fun _=>true) j))) (fun t=>by
    rcases Pm (yap (di base dl j) (hS base es H0 (fun _=>true) j)) (bN (bU ex j) (frS ops es fr0 (fun _=>true) j)) t with g|⟨g1,g2⟩
    ·exact .inl g
    ·rcases LO t with g3|g3
     ·left;rw [g1,g3]
     ·exact .inr ⟨by rw [g1,g3],g2⟩)
   have qB: ∀i,DD (yap (di base dl j) (hS base es H0 (fun _=>true) j)) i->DD (hS base es H0 E ops.size) i:=fun i ⟨q,hq⟩=>⟨q,dX i q hq⟩
   have fQ: ∀{w':World} {v:Value},VR w' (MM My (yap (di base dl j) (hS base es H0 (fun _=>true) j)) ρ) ρ (DD (yap (di base dl j) (hS base es H0 (fun _=>true) j))) v r->VR w' (MM Mx (hS base es H0 E ops.size) ρ) ρ (DD (hS base es H0 E ops.size)) v r:=fun hv=>by
    rw [Fs] at hv;exact hv.carry (zzA _) (fun b _ hm=>⟨rfl,hm⟩) (fun k hd=>⟨qB k hd,rfl,fun arr t ha=>⟨arr,ha,rfl⟩⟩)
   rcases hq with ⟨p,oC,hp⟩|⟨f,args,ts,g,cap,ho,hf,jC⟩
   ·obtain ⟨v,aF,hv⟩:=Et (P:=P) tV.objs tV.ev um oC hp;unfold Oper.wp;rw [aF];exact dY w v hs (fQ hv)
   ·obtain ⟨vs,ef,vD,hx⟩:=(hf▸tV.ev f).dq;obtain ⟨cE,dp⟩:=Qy (P:=P) tV jC (vs:=args.toList.map a.eval++vs) (by simp [vD]) (fun i v x g1 g2=>by
     by_cases hi:i<args.toList.length
     ·rw [List.getElem?_append_left (by simpa using hi),List.getElem?_map] at g1 g2;rw [zzI hi] at g1 g2;cases g1;cases g2;exact tV.ev _
     ·rw [List.getElem?_append_right (by simpa using hi)] at g1 g2;simp only [List.length_map] at g1 g2;exact hx _ v x g1 g2)
    have e1:(args.map a.eval++vs.toArray)=(args.toList.map a.eval++vs).toArray:=by obtain ⟨l⟩:=args;simp
    have aF:(execOp a.eval o).run P w= .ok (.enter g (args.toList.map a.eval++vs).toArray) w:=by
     simp only [execOp,ho,resolve,ef];have h3:(#[]++Array.map a.eval args++vs.toArray)=(args.toList.map a.eval++vs).toArray:=by rw [Array.empty_append];exact e1
     simp only [Deferred.ofValue,invoke,Sem.run_bind,Sem.run_pure,Result.andThen_ok,h3];exact Ir cE _
    unfold Oper.wp;rw [aF];refine dp.mono ?_;rintro e w' ⟨v,r',rfl,rfl,_,hv,L4⟩;exact dY w' v (hs.later L4) (fQ hv)
 |alloc r ob=>
  rw [gk] at ga;obtain ⟨hw,gB,hl,nC⟩:=ga;obtain ⟨yP,KO⟩:=vL gB hl;have ju:hget (hS base es H0 E ops.size) (base+j)=none:=by
   rw [u3 hb ops.size (fun i _ l7=>yP i l7),if_neg (fun h=>by rw [Nat.add_sub_cancel_left,oN] at h;cases h.2.2.1)];exact hb _ (by omega)
  have dY: ∀(w':World) (v:Value) (ρ2:Nat->Addr),aA B w0 Mx N w' ρ2 (frS ops es fr0 E ops.size) ((base+j,ob)::hS base es H0 E ops.size) a->VR w' (MM Mx ((base+j,ob)::hS base es H0 E ops.size) ρ2) ρ2 (DD ((base+j,ob)::hS base es H0 E ops.size)) v r->K (a.put o.dst v) w':=fun w' v ρ2 gC hv=>by
   refine hK _ _ _ ((gC.put (d:=o.dst) (by rw [fH];exact je) hv).congr (fun t=>by rw [dx t,fH,gk];rfl) (fun i=>?_));rw [u3 hb ops.size (fun i _ l7=>by
    by_cases e:i=j
    ·subst e;rw [gk];rfl
    ·rw [h2 i e] at l7;exact yP i l7)]
   simp only [hget];rw [u3 hb ops.size (fun i _ l7=>yP i l7)];by_cases e:base+j=i
   ·subst e;rw [if_pos ⟨by omega,by omega,by rw [Nat.add_sub_cancel_left];exact h1,by rw [Nat.add_sub_cancel_left,gk];rfl⟩,if_pos rfl,Nat.add_sub_cancel_left,gk];rfl
   ·rw [if_neg e];by_cases hib:base<=i
    ·have:i-base≠j:=by omega
     rw [h2 _ this]
    ·rw [if_neg (fun h=>hib h.1),if_neg (fun h=>hib h.1)]
  rw [if_pos (mK hw)];left;rcases nC with ⟨p,fI,hp⟩|⟨BF,f,args,ts,g,cap,ho,hf,jC⟩
  ·obtain ⟨v,w',aF,bo,hv,nN,xi⟩:=Qb (P:=P) eH ju fI hp;unfold Oper.wp;rw [aF];exact dY _ _ _ (bo.qR (fr':=frS ops es fr0 E ops.size) (fun t=>by subst xi;exact VR.laid hs ju (hs.frv t))) hv
  ·skip
   have dX: ∀i ob,hget (yap (di base dl j) (hS base es H0 (fun _=>true) j)) i=some ob->hget (hS base es H0 E ops.size) i=some ob:=fun i ob hi=>by
    rw [Qp] at hi
    split at hi
    ·cases hi
    ·rename_i hnd
     rw [u3 hb j (fun i hi _=>KO i hi)] at hi;rw [u3 hb ops.size (fun i _ l7=>yP i l7)]
     split at hi
     ·rename_i hcnd
      have gQ:E (i-base)=true:=by
       rcases hc.new (i-base) j (by omega) hj hcnd.2.1 with g|g
       ·exact iT _ g
       ·exfalso;apply hnd;rw [List.contains_iff_mem];exact List.mem_map.2 ⟨i-base,List.contains_iff_mem.1 g,by omega⟩
      rw [if_pos ⟨hcnd.1,by omega,gQ,hcnd.2.2.2⟩];exact hi
     ·rename_i hcnd
      by_cases hib:base<=i
      ·rw [hb i hib] at hi;cases hi
      ·rw [if_neg (fun h=>hib h.1)];exact hi
   obtain ⟨My,Fs,tV⟩:=hs.sub dX (fun i ob hi=>List.all_eq_true.1 BF _ (Hx hi)) (fr':=jT (yap (di base dl j) (hS base es H0 (fun _=>true) j)) (bN (bU ex j) (frS ops es fr0 (fun _=>true) j))) (fun t=>by
    rcases Pm (yap (di base dl j) (hS base es H0 (fun _=>true) j)) (bN (bU ex j) (frS ops es fr0 (fun _=>true) j)) t with g|⟨g1,g2⟩
    ·exact .inl g
    ·rcases LO t with g3|g3
     ·left;rw [g1,g3]
     ·exact .inr ⟨by rw [g1,g3],g2⟩)
   have qB: ∀i,DD (yap (di base dl j) (hS base es H0 (fun _=>true) j)) i->DD (hS base es H0 E ops.size) i:=fun i ⟨q,hq⟩=>⟨q,dX i q hq⟩;obtain ⟨vs,ef,vD,hx⟩:=(hf▸tV.ev f).dq;obtain ⟨cE,dp⟩:=Ux (P:=P) tV jC (vs:=args.toList.map a.eval++vs) (by simp [vD]) (fun i v x g1 g2=>by
    by_cases hi:i<args.toList.length
    ·rw [List.getElem?_append_left (by simpa using hi),List.getElem?_map] at g1 g2;rw [zzI hi] at g1 g2;cases g1;cases g2;exact tV.ev _
    ·rw [List.getElem?_append_right (by simpa using hi)] at g1 g2;simp only [List.length_map] at g1 g2;exact hx _ v x g1 g2)
   have e1:(args.map a.eval++vs.toArray)=(args.toList.map a.eval++vs).toArray:=by obtain ⟨l⟩:=args;simp
   have aF:(execOp a.eval o).run P w= .ok (.enter g (args.toList.map a.eval++vs).toArray) w:=by
    simp only [execOp,ho,resolve,ef];have h3:(#[]++Array.map a.eval args++vs.toArray)=(args.toList.map a.eval++vs).toArray:=by rw [Array.empty_append];exact e1
    simp only [Deferred.ofValue,invoke,Sem.run_bind,Sem.run_pure,Result.andThen_ok,h3];exact Ir cE _
   unfold Oper.wp;rw [aF];refine dp.mono ?_;rintro e w' ⟨v,dv,n,t,l,ρ',M0,rfl,⟨rfl,rfl⟩,hk,hv⟩;obtain ⟨j1,j2⟩:=hs.Bh ju rfl hk;exact dY _ _ _ j1 (j2 _ _ _ hv)
 |store id ob=>
  rw [gk] at ga;obtain ⟨hw,gB,hl,t,x,y,p,ho,aY,hp⟩:=ga;have sZ:yej o.op=false:=by rw [ho];rfl
  have kinds: ∀i,i<ops.size->i≠j->(∀H,(es i).eff (base+i) H=H)\/(E i=true/\i<j)\/(E i=false/\j<i)\/ ∃bC mH,es i= .store bC mH/\bC≠id:=fun i hi e=>by
   have bZ:=fZ i hi;have iv:loud (ops.getD i default).op=true->(E i=true/\i<j)\/(E i=false/\j<i)\/(((gT ops).getD j []).contains i=false/\((gT ops).getD i []).contains j=false/\sB ops (ops.getD i default).op o.op=true):=fun nD=>by
    cases g1:((gT ops).getD j []).contains i with
    |true=>exact .inl ⟨iT i g1,hc.lt i j hi hj g1⟩
    |false=>
     cases g2:((gT ops).getD i []).contains j with
     |true=>exact .inr (.inl ⟨jB i g2,hc.lt j i hj hi g2⟩)
     |false=>
      rcases hc.lolo i j hi hj e nD (by rw [gP];exact hl) with g|g|g|g
      ·rw [g1] at g;cases g
      ·rw [g2] at g;cases g
      ·rw [gP,sZ] at g;cases g.2
      ·rw [gP] at g;exact .inr (.inr ⟨rfl,rfl,g⟩)
   cases hk:es i with
   |skip=>left;intro H;rfl
   |quiet r=>left;intro H;rfl
   |alloc r mH=>
    replace bZ:=bZ.resolve_left (by rw [hk];intro h;cases h);rw [hk] at bZ
    have:=hc.lo i j hi hj e bZ.2.1 bZ.2.2.1 (by rw [gP];exact hl)
    exact .inr (.inl ⟨iT i this,hc.lt i j hi hj this⟩)
   |ins bC n' x'=>
    replace bZ:=bZ.resolve_left (by rw [hk];intro h;cases h);rw [hk] at bZ;obtain ⟨_,_,h3,t1,m1,k1,v1,p1,qw,_⟩:=bZ
    have:=hc.ins i j hi hj e (by rw [qw];rfl) (by rw [gP];exact hl)
    rw [gP,sZ] at this;cases this
   |app r g' mH=>
    replace bZ:=bZ.resolve_left (by rw [hk];intro h;cases h);rw [hk] at bZ;obtain ⟨_,_,h3,s1,x1,t1,p1,qw,_⟩:=bZ;rcases iv h3 with g|g|⟨_,_,g⟩
    ·exact .inr (.inl g)
    ·exact .inr (.inr (.inl g))
    ·rw [qw] at g;cases g
   |store bC mH=>
    replace bZ:=bZ.resolve_left (by rw [hk];intro h;cases h);rw [hk] at bZ;obtain ⟨_,_,h3,t1,x1,y1,p1,qw,wR,sY⟩:=bZ;rcases iv h3 with g|g|⟨u1,u2,g⟩
    ·exact .inr (.inl g)
    ·exact .inr (.inr (.inl g))
    ·refine .inr (.inr (.inr ⟨bC,mH,rfl,?_⟩));unfold sB at g;have gg: ∀a b,stP (ops.getD i default).op=some a->stP o.op=some b->u4 ops (some a) (some b)=true:=fun a b h1 h2=>by rw [←h1,←h2];exact g
     cases ha:stP (ops.getD i default).op with
     |none=>rw [ha] at g;cases g
     |some a=>
      cases ky:stP o.op with
      |none=>rw [ha,ky] at g;cases g
      |some b=>
       have g2:=gg a b ha ky;simp only [u4,Bool.and_eq_true,bne_iff_ne] at g2;have gC:=rh i j a b hi hj e u1 u2 ha (by rw [gP];exact ky) g2.1.2 g2.2 g2.1.1;obtain ⟨XV,e1⟩:=Oc (ops:=ops) (es:=es) (fr0:=fr0) qw ha g2.1.2 wR;obtain ⟨XU,e2⟩:=Oc (ops:=ops) (es:=es) (fr0:=fr0) ho ky g2.2 aY;unfold sep2 at gC;rw [e1,e2] at gC
       simp only [sepV,Bool.or_eq_true,beq_iff_eq,bne_iff_ne] at gC;rcases gC with h|h
       ·exact absurd h g2.1.1
       ·exact h
  have L1: ∀k,k<=ops.size->hget (hS base es H0 E k) id=hget (hS base es H0 (fun _=>true) (min k j)) id:=by
   intro k
   induction k with
   |zero=>intro _;simp [hS]
   |succ k ih=>
    intro hk;have cB:=ih (by omega);by_cases e:k=j
    ·subst e;simp only [hS,oN,if_false,Bool.false_eq_true];rw [cB,Nat.min_self,show min (k+1) k=k by omega]
    ·by_cases LB:k<j
     ·rw [show min (k+1) j=k+1 by omega];rw [show min k j=k by omega] at cB;simp only [hS,if_true];rcases kinds k (by omega) e with g1|⟨g1,_⟩|⟨_,g2⟩|⟨bC,mH,g1,g2⟩
      ·rw [g1,g1];split<;>exact cB
      ·rw [if_pos g1];exact Xo _ _ cB
      ·omega
      ·rw [g1];simp only [Ent.eff];rw [iE g2]
       split
       ·rw [iE g2];exact cB
       ·exact cB
     ·rw [show min (k+1) j=j by omega];rw [show min k j=j by omega] at cB;simp only [hS]
      split
      ·rename_i CF
       rcases kinds k (by omega) e with g1|⟨_,g2⟩|⟨g1,_⟩|⟨bC,mH,g1,g2⟩
       ·rw [g1];exact cB
       ·omega
       ·rw [g1] at CF;cases CF
       ·rw [g1];simp only [Ent.eff];rw [iE g2];exact cB
      ·exact cB
  have hid:=L1 ops.size (zzA _);rw [show min ops.size j=j by omega] at hid;rw [←Xn aY hid] at aY;have L2: ∀k,j<k->k<=ops.size-> ∀i,hget (hS base es H0 E' k) i=hget (hset (hS base es H0 E k) id ob) i:=by
   intro k
   induction k with
   |zero=>intro h;omega
   |succ k ih=>
    intro n7 hk i;by_cases e:k=j
    ·subst e;have oa:hS base es H0 E' k=hS base es H0 E k:=by
      have gen: ∀q,q<=k->hS base es H0 E' q=hS base es H0 E q:=by
       intro q
       induction q with
       |zero=>intro _;rfl
       |succ q ihq=>intro hq;simp only [hS];rw [ihq (by omega),h2 q (by omega)]
      exact gen k (zzA _)
     simp only [hS,h1,if_true,oN,Bool.false_eq_true,if_false,gk,Ent.eff];rw [oa]
    ·have cB:=ih (by omega) (by omega);simp only [hS,h2 k e]
     split
     ·rename_i CF
      rcases kinds k (by omega) e with g1|⟨_,g2⟩|⟨g1,_⟩|⟨bC,mH,g1,g2⟩
      ·rw [g1,g1];exact cB i
      ·omega
      ·rw [g1] at CF;cases CF
      ·rw [g1];simp only [Ent.eff];rw [vn,vn,vn,cB i,vn];by_cases e1:bC=i
       ·rw [if_pos e1,if_neg (fun h=>g2 (e1.trans h.symm)),if_neg (fun h=>g2 (e1.trans h.symm)),if_pos e1]
       ·rw [if_neg e1,if_neg e1]
     ·exact cB i
  obtain ⟨w',aF,bo⟩:=Qd (P:=P) hs (eH.ev x) (eH.ev y) aY hp;rw [if_pos (mK hw)];left;have mR:(execOp a.eval o).run P w= .ok .skip w':=by simp only [execOp,ho];simp [aF]
  unfold Oper.wp;rw [mR];refine hK _ _ _ ((bo.put (d:=o.dst) (by rw [fH];exact je) (.any _)).congr (fun t=>by rw [dx t,fH,gk];rfl) (fun i=>?_));rw [L2 ops.size hj (zzA _) i]
 |app r g ob=>
  rw [gk] at ga;obtain ⟨hw,gB,hl,sx,x,t,p,ho,aY,hp⟩:=ga;obtain ⟨Mo,Mn⟩:=BW hl (by rw [ho];rfl) (by rw [ho];rfl);rw [←Mo] at aY;have ju:hget (hS base es H0 E ops.size) (base+j)=none:=by
   rw [Mo];have gen: ∀k,k<=j-> ∀i,base+k<=i->hget (hS base es H0 (fun _=>true) k) i=none:=by
    intro k
    induction k with
    |zero=>intro _ i hi;exact hb i (by omega)
    |succ k ih=>
     intro hk i hi;have cB:=ih (by omega) i (by omega);simp only [hS,if_true];cases Ci:es k with
     |skip=>exact cB
     |quiet r=>exact cB
     |alloc r ob=>simp only [Ent.eff,hget];rw [if_neg (by omega)];exact cB
     |store id ob=>
      simp only [Ent.eff];by_cases e:id=i
      ·subst e;have yZ: ∀(H:Hp),hget H id=none->hget (hset H id ob) id=none:=fun H hH=>by
        induction H with
        |nil=>rfl
        |cons q r ihr=>
         obtain ⟨m,oo⟩:=q;simp only [hget] at hH
         split at hH
         ·cases hH
         ·rename_i hm;simp only [hset,hm,if_false,hget];exact ihr hH
       exact yZ _ cB
      ·rw [iE e];exact cB
     |ins id n x=>
      have:=hc.ins k j (by omega) hj (by omega) (by
       have Ch:=(fZ k (by omega)).resolve_left (by rw [Ci];intro h;cases h);rw [Ci] at Ch;obtain ⟨_,_,_,t',m',k',v',p',vK,_⟩:=Ch;rw [vK];rfl) (by rw [gP];exact hl)
      rw [gP,ho] at this;cases this
     |app r g ob=>
      simp only [Ent.eff,hget];rw [if_neg (by omega)];cases g with
      |none=>exact cB
      |some id=>
       simp only [hgo];by_cases e:id=i
       ·subst e;have yZ: ∀(H:Hp),hget H id=none->hget (hset H id .gone) id=none:=fun H hH=>by
         induction H with
         |nil=>rfl
         |cons q r ihr=>
          obtain ⟨m,oo⟩:=q;simp only [hget] at hH
          split at hH
          ·cases hH
          ·rename_i hm;simp only [hset,hm,if_false,hget];exact ihr hH
        exact yZ _ cB
       ·rw [iE e];exact cB
   exact gen j (zzA _) _ (zzA _)
  obtain ⟨z,w',ρ',aF,bo,hv⟩:=Xq (P:=P) (ty:=o.type) hs ju (eH.ev sx) (eH.ev x) aY hp;rw [if_pos (mK hw)];left;have mR:(execOp a.eval o).run P w= .ok (.value z) w':=by simp [execOp,ho,resolve,invoke,builtin,aF]
  unfold Oper.wp;rw [mR];refine hK _ _ _ ((bo.put (d:=o.dst) (by rw [fH];exact je) hv).congr (fun t=>by rw [dx t,fH,gk];rfl) (fun i=>?_));rw [Mn,gk,Mo];rfl
 |ins id n x=>
  rw [gk] at ga;obtain ⟨hw,gB,hl,t,mo,ko,vo,p,ho,aY,hp⟩:=ga;obtain ⟨kt,et,c7,fx,em,ek,ev,t',g,hg,pC⟩:=Od aY hp;have fG:yej (ops.getD j default).op=true:=by rw [gP,ho];rfl
  have kinds: ∀i,i<ops.size->i≠j->(∀H,(es i).eff (base+i) H=H)\/(i<j/\E i=true/\ ∃r ob,es i= .alloc r ob)\/ ∃bC n' x',es i= .ins bC n' x':=fun i hi e=>by
   have bZ:=fZ i hi;cases hk:es i with
   |skip=>left;intro H;rfl
   |quiet r=>left;intro H;rfl
   |alloc r mH=>
    replace bZ:=bZ.resolve_left (by rw [hk];intro h;cases h);rw [hk] at bZ
    have:=hc.lo i j hi hj e bZ.2.1 bZ.2.2.1 (by rw [gP];exact hl)
    exact .inr (.inl ⟨hc.lt i j hi hj this,iT i this,r,mH,rfl⟩)
   |store bC mH=>
    replace bZ:=bZ.resolve_left (by rw [hk];intro h;cases h);rw [hk] at bZ;obtain ⟨_,_,h3,t1,x1,y1,p1,qw,_⟩:=bZ
    have:=hc.ins j i hj hi (Ne.symm e) fG h3
    rw [qw] at this;cases this
   |app r g' mH=>
    replace bZ:=bZ.resolve_left (by rw [hk];intro h;cases h);rw [hk] at bZ;obtain ⟨_,_,h3,t1,x1,y1,p1,qw,_⟩:=bZ
    have:=hc.ins j i hj hi (Ne.symm e) fG h3
    rw [qw] at this;cases this
   |ins bC n' x'=>exact .inr (.inr ⟨bC,n',x',rfl⟩)
  have L1: ∀k,k<=ops.size->sU (hS base es H0 E k) id=sU (hS base es H0 (fun _=>true) (min k j)) id:=by
   intro k
   induction k with
   |zero=>intro _;simp [hS]
   |succ k ih=>
    intro hk;have cB:=ih (by omega);by_cases e:k=j
    ·subst e;simp only [hS,oN,if_false,Bool.false_eq_true];rw [cB,Nat.min_self,show min (k+1) k=k by omega]
    ·by_cases LB:k<j
     ·rw [show min (k+1) j=k+1 by omega];rw [show min k j=k by omega] at cB;simp only [hS,if_true];rcases kinds k (by omega) e with g1|⟨_,g2,r,ob,g3⟩|⟨bC,n',x',g1⟩
      ·rw [g1,g1];split<;>exact cB
      ·rw [if_pos g2,g3];simp only [Ent.eff,sU,hget]
       split
       ·rfl
       ·exact cB
      ·rw [g1];simp only [Ent.eff,GS]
       split
       ·rw [GS];exact cB
       ·exact cB
     ·rw [show min (k+1) j=j by omega];rw [show min k j=j by omega] at cB;simp only [hS]
      split
      ·rcases kinds k (by omega) e with g1|⟨g2,_⟩|⟨bC,n',x',g1⟩
       ·rw [g1];exact cB
       ·omega
       ·rw [g1];simp only [Ent.eff,GS];exact cB
      ·exact cB
  have S7:=L1 ops.size (zzA _);rw [show min ops.size j=j by omega] at S7;have LB:sU (hS base es H0 (fun _=>true) j) id=some t':=by unfold sU;rw [hg];rfl
  obtain ⟨gE,Td⟩: ∃gE,hget (hS base es H0 E ops.size) id=some (.fmap t' (.ints gE)):=V2 (S7.trans LB);have L3: ∀k,j<k->k<=ops.size->(xD (hS base es H0 (fun _=>true) k) id n).isSome=true:=by
   intro k
   induction k with
   |zero=>intro h;omega
   |succ k ih=>
    intro n7 hk;by_cases e:k=j
    ·subst e;simp only [hS,if_true,gk,Ent.eff];rw [V1 hg];rfl
    ·have cB:=ih (by omega) (by omega);simp only [hS,if_true];rcases kinds k (by omega) e with g1|⟨g2,_⟩|⟨bC,n',x',g1⟩
     ·rw [g1];exact cB
     ·omega
     ·rw [g1];simp only [Ent.eff];exact U6 cB
  have Cj: ∀k,j<k->k<ops.size-> ∀bC n' x',es k= .ins bC n' x'->bC≠id\/n'≠n:=by
   intro k n7 hk bC n' x' Ci;have rE:=(fZ k hk).resolve_left (by rw [Ci];intro h;cases h);rw [Ci] at rE;obtain ⟨_,_,_,t1,m1,k1,v1,p1,qw,wR,sY⟩:=rE;obtain ⟨_,_,_,_,_,_,_,t2,g2,oG,LL⟩:=Od wR sY;by_cases e1:bC=id
   ·by_cases e2:n'=n
    ·exfalso;subst e1 e2
     have:=L3 k n7 (by omega)
     unfold xD at this;rw [oG] at this;simp only [FC,LL] at this;cases this
    ·exact .inr e2
   ·exact .inl e1
  have L2: ∀k,j<k->k<=ops.size-> ∀i,hget (hS base es H0 E' k) i=hget (insE (hS base es H0 E k) id n x) i:=by
   intro k
   induction k with
   |zero=>intro h;omega
   |succ k ih=>
    intro n7 hk i;by_cases e:k=j
    ·subst e;have oa:hS base es H0 E' k=hS base es H0 E k:=by
      have gen: ∀q,q<=k->hS base es H0 E' q=hS base es H0 E q:=by
       intro q
       induction q with
       |zero=>intro _;rfl
       |succ q ihq=>intro hq;simp only [hS];rw [ihq (by omega),h2 q (by omega)]
      exact gen k (zzA _)
     simp only [hS,h1,if_true,oN,Bool.false_eq_true,if_false,gk,Ent.eff];rw [oa]
    ·have cB:=ih (by omega) (by omega);simp only [hS,h2 k e]
     split
     ·rcases kinds k (by omega) e with g1|⟨g2,_⟩|⟨bC,n',x',g1⟩
      ·rw [g1,g1];exact cB i
      ·omega
      ·rw [g1];simp only [Ent.eff];exact Xp cB (Cj k (by omega) (by omega) bC n' x' g1) i
     ·exact cB i
  have YF:muF P (hS base es H0 E ops.size) t (.mp id) (.int .i64 n) (.int .i64 x)=some (id, .fmap t' (.ints (updI gE n x))):=by
   unfold muF;rw [c7];simp only [fx,muK,Td,muM]
  have vM:=eH.ev mo;have mZ:=eH.ev ko;have nX:=eH.ev vo;rw [em] at vM;rw [ek] at mZ;rw [ev] at nX;obtain ⟨w',aF,bo⟩:=H4 (P:=P) hs vM mZ nX YF;rw [if_pos (mK hw)];left;have mR:(execOp a.eval o).run P w= .ok .skip w':=by simp only [execOp,ho];simp [aF]
  unfold Oper.wp;rw [mR];refine hK _ _ _ ((bo.put (d:=o.dst) (by rw [fH];exact je) (.any _)).congr (fun t=>by rw [dx t,fH,gk];rfl) (fun i=>?_));rw [L2 ops.size hj (zzA _) i];unfold insE;rw [Td];rfl
theorem PY {q:Nat} (hq:q<=ops.size) {H:Hp} {fr:Fr} (hc:MO ops ex dl) (rh: ∀i j a b,i<ops.size->j<ops.size->i≠j->((gT ops).getD j []).contains i=false->((gT ops).getD i []).contains j=false->stP (ops.getD i default).op=some a->stP (ops.getD j default).op=some b->qO ops a=true->qO ops b=true->a≠b->sep2 fr a b=true)
  (fZ: ∀j,j<ops.size->es j= .skip\/sA P ops (hnew H) ex dl j (ops.getD j default) (frS ops es fr (fun _=>true) j) (hS (hnew H) es H (fun _=>true) j) (es j))
  (ga: ∀j,j<q->dok (fb ops j) N=true/\sA P ops (hnew H) ex dl j (ops.getD j default) (frS ops es fr (fun _=>true) j) (hS (hnew H) es H (fun _=>true) j) (es j))
  (gG: ∀j,q<=j->j<ops.size-> ∀i,i<q->((gT ops).getD j []).contains i=true) (Q:Exit->Act->World->Prop)
  (post: ∀(listed:Array Bool) (a:Act) (w:World) (ρ:Nat->Addr),listed.size=ops.size->(∀i,i<ops.size->listed.getD i false=decide (i<q))->aA B w0 Mx N w ρ (frS ops es fr (fun _=>true) q) (hS (hnew H) es H (fun _=>true) q) a->wpAny P .any ops Q (ops.size-q) listed a w):
  ∀(f:Nat) (listed:Array Bool) (a:Act) (w:World),listed.size=ops.size->cntE (fun i=>listed.getD i false) ops.size+f=q->(∀i,q<=i->listed.getD i false=false)->x9 ops (fun i=>listed.getD i false)->
   (∃ρ,aA B w0 Mx N w ρ (frS ops es fr (fun i=>listed.getD i false) ops.size) (hS (hnew H) es H (fun i=>listed.getD i false) ops.size) a)->
   wpAny P .any ops Q (ops.size-q+f) listed a w:=by
 have CN: ∀(E:Nat->Bool),(∀i,q<=i->E i=false)->cntE E ops.size=cntE E q:=by
  intro E hE;have gen: ∀d,q+d<=ops.size->cntE E (q+d)=cntE E q:=by
   intro d
   induction d with
   |zero=>intro _;rfl
   |succ d ih=>intro hd;rw [←Nat.add_assoc];simp only [cntE,hE (q+d) (by omega),Bool.false_eq_true,if_false];exact ih (by omega)
  have:=gen (ops.size-q) (by omega)
  rwa [show q+(ops.size-q)=ops.size by omega] at this
 intro f
 induction f with
 |zero=>
  intro listed a w fF iw cK b5 ⟨ρ,hs⟩;rw [CN _ cK] at iw;have cF:=Pk q (by omega:cntE (fun i=>listed.getD i false) q=q);have nD: ∀i,i<ops.size->listed.getD i false=decide (i<q):=fun i hi=>by
   by_cases e:i<q
   ·rw [cF i e];simp [e]
   ·rw [cK i (by omega)];simp [e]
  have e1: ∀t,fget (frS ops es fr (fun _=>true) q) t=fget (frS ops es fr (fun i=>listed.getD i false) ops.size) t:=fun t=>by
   rw [←Sm (ops:=ops) (es:=es) (fr0:=fr) (j:=q) (E:=fun i=>decide (i<q)) (fun _=>rfl) ops.size hq];exact EC ops.size fun i hi _=>(nD i hi).symm
  have e2:hS (hnew H) es H (fun _=>true) q=hS (hnew H) es H (fun i=>listed.getD i false) ops.size:=by
   rw [←FH (base:=hnew H) (es:=es) (H0:=H) (j:=q) (E:=fun i=>decide (i<q)) (fun _=>rfl) ops.size hq];exact yz ops.size fun i hi=> .inr (nD i hi).symm
  exact post listed a w ρ fF nD (hs.congr e1 (fun i=>by rw [e2]))
 |succ f ih=>
  intro listed a w fF iw cK b5 ⟨ρ,hs⟩;have SR: ∃j,j<q/\listed.getD j false=false:=by
   refine Classical.byContradiction fun hn=>?_;have cF: ∀i,i<q->listed.getD i false=true:=fun i hi=>by
    cases hh:listed.getD i false with
    |true=>rfl
    |false=>exact absurd ⟨i,hi,hh⟩ hn
   have jC: ∀k,k<=q->cntE (fun i=>listed.getD i false) k=k:=by
    intro k
    induction k with
    |zero=>intro _;rfl
    |succ k cB=>intro hk;simp only [cntE,cB (by omega),cF k (by omega),if_true]
   rw [CN _ cK,jC q (zzA _)] at iw;omega
  refine ⟨fun bx=>?_,fun j hj=>?_⟩
  ·exfalso;obtain ⟨j0,YN,YT⟩:=SR;have gen: ∀m,∀j,j<=m->j<q->listed.getD j false=false-> ∃j,j<q/\listed.getD j false=false/\ ∀i,i<j->listed.getD i false=true:=by
    intro m
    induction m with
    |zero=>intro j rF hj hf;exact ⟨j,hj,hf,fun i hi=>by omega⟩
    |succ m ihm=>
     intro j rF hj hf;by_cases vG: ∃i,i<j/\listed.getD i false=false
     ·obtain ⟨i,fG,rO⟩:=vG;exact ihm i (by omega) (by omega) rO
     ·refine ⟨j,hj,hf,fun i hi=>?_⟩;cases hh:listed.getD i false with
      |true=>rfl
      |false=>exact absurd ⟨i,hi,hh⟩ vG
   obtain ⟨j,hj,hf,vG⟩:=gen j0 j0 (zzA _) YN YT;have hj:j<ops.size:=by omega
   have:j∈Region.ready .any ops listed:=mem_ready.2 ⟨by
    have b9:j<listed.size:=by omega
    simpa [b9] using hf,ops[j],by simp [hj],fun e he zd=>vG _ (hc.elt j hj e.on (by
     simp only [nq,List.mem_map,List.mem_filter];exact ⟨e,⟨by simpa [hj] using he,zd⟩,rfl⟩))⟩
   rw [bx] at this;cases this
  ·obtain ⟨g1,o,g2,g3⟩:=mem_ready.1 hj;have eJ:j<ops.size:=(Array.getElem?_eq_some_iff.1 g2).1;have b9:j<listed.size:=by omega
   have oN:listed.getD j false=false:=by simpa [b9] using g1
   have ho:ops.getD j default=o:=by simp [g2]
   have rP: ∀e∈nq (ops.getD j default),listed.getD e false=true:=fun e he=>by
    rw [ho] at he;simp only [nq,List.mem_map,List.mem_filter] at he;obtain ⟨x,⟨Bs,SK⟩,rfl⟩:=he;exact g3 x (by simpa using Bs) SK
   have Fc:j<q:=by
    rcases Nat.lt_or_ge j q with g|g
    ·exact g
    ·obtain ⟨i,hi,rO⟩:=SR
     have:=F8 (E:=fun i=>listed.getD i false) b5 (gG j g eJ i hi) rP
     rw [rO] at this;cases this
   have mP:(listed.setIfInBounds j true).getD j false=true:=by simp [b9]
   have mN: ∀i,i≠j->(listed.setIfInBounds j true).getD i false=listed.getD i false:=fun i hi=>getD_set_ne false (Ne.symm hi)
   refine Xm (P:=P) (N:=N) (ex:=ex) (dl:=dl) hc rh (fun i hi=>yH hi) fZ b5 (fun i hi=>?_) eJ (ga j Fc).1 (ga j Fc).2 oN rP hs (E':=fun i=>(listed.setIfInBounds j true).getD i false) mP mN _ _ (fun a' w' ρ' bo=>ih _ a' w' (by simpa using fF) ?_ ?_ ?_ ⟨ρ',bo⟩)
   ·have bH:i<listed.size:=by
     rcases Nat.lt_or_ge i listed.size with g|g
     ·exact g
     ·simp [Nat.not_lt.2 g] at hi
    omega
   ·have:=Pj (E:=fun i=>listed.getD i false) (E':=fun i=>(listed.setIfInBounds j true).getD i false) oN mP mN ops.size
    rw [if_pos eJ] at this;omega
   ·intro i hi;rw [mN i (by omega)];exact cK i hi
   ·intro k hk i hi;show (listed.setIfInBounds j true).getD i false=true;have hk:(listed.setIfInBounds j true).getD k false=true:=hk;by_cases e:i=j
    ·subst e;exact mP
    ·rw [mN i e];by_cases ek:k=j
     ·subst ek;exact rP i hi
     ·rw [mN k ek] at hk;exact b5 k hk i hi
theorem Qo {q:Nat} {H:Hp} {fr:Fr} {a:Act} {w:World} {ρ:Nat->Addr} {Q:Exit->Act->World->Prop} (hq:q<=ops.size) (hs:aA B w0 Mx N w ρ fr H a)
  (BV: ∀(f:Nat) (listed:Array Bool) (a:Act) (w:World),listed.size=ops.size->cntE (fun i=>listed.getD i false) ops.size+f=q->(∀i,q<=i->listed.getD i false=false)->x9 ops (fun i=>listed.getD i false)->
   (∃ρ,aA B w0 Mx N w ρ (frS ops es fr (fun i=>listed.getD i false) ops.size) (hS (hnew H) es H (fun i=>listed.getD i false) ops.size) a)->
   wpAny P .any ops Q (ops.size-q+f) listed a w):wpAny P .any ops Q ops.size (Array.replicate ops.size false) a {w with drawn:=w.drawn+1}:=by
 have h0:=BV q (Array.replicate ops.size false) a {w with drawn:=w.drawn+1} (by simp) ?_ (fun i _=>vq _ _) (fun j hj=>?_) ⟨ρ,(hs.draw).congr (fun t=>?_) (fun i=>?_)⟩
 ·rwa [show ops.size-q+q=ops.size by omega] at h0
 ·have: ∀k,cntE (fun i=>(Array.replicate ops.size false).getD i false) k=0:=by
   intro k
   induction k with
   |zero=>rfl
   |succ k cB=>simp only [vq] at cB;simp only [cntE,vq,cB];rfl
  rw [this];omega
 ·exfalso;have hj:(Array.replicate ops.size false).getD j false=true:=hj;rw [vq] at hj;cases hj
 ·have: ∀k,frS ops es fr (fun i=>(Array.replicate ops.size false).getD i false) k=fr:=by
   intro k
   induction k with
   |zero=>rfl
   |succ k cB=>simp only [vq] at cB;simp only [frS,vq,cB];rfl
  rw [this]
 ·have: ∀k,hS (hnew H) es H (fun i=>(Array.replicate ops.size false).getD i false) k=H:=by
   intro k
   induction k with
   |zero=>rfl
   |succ k cB=>simp only [vq] at cB;simp only [hS,vq,cB];rfl
  rw [this]
theorem PX {listed:Array Bool} (fF:listed.size=ops.size) (cF: ∀i,i<ops.size->listed.getD i false=true):Region.ready .any ops listed=[]:=by
 rw [List.eq_nil_iff_forall_not_mem];intro j hj;obtain ⟨g1,o,g2,_⟩:=mem_ready.1 hj;have eJ:j<ops.size:=(Array.getElem?_eq_some_iff.1 g2).1
 have:=cF j eJ
 have b9:j<listed.size:=by omega
 simp [b9] at this g1;rw [this] at g1;cases g1
theorem aj.wH {id:Nat} {fr:Fr} {H:Hp} {Q:Exit->Fr->Hp->Prop} (ex dl:List (List Nat)) (gd:(CO ops ex dl&&(ex.length==ops.size)&&(dl.length==ops.size))=true) (hm:P.follows .mixedOrders=true)
  (rh: ∀i j a b,i<ops.size->j<ops.size->i≠j->((gT ops).getD j []).contains i=false->((gT ops).getD i []).contains j=false->stP (ops.getD i default).op=some a->stP (ops.getD j default).op=some b->qO ops a=true->qO ops b=true->a≠b->sep2 fr a b=true)
  (h:awD P N ops (hnew H) 0 ops.toList ex dl fr H (Q .normal)):aj P N id ops fr H Q:=by
 simp only [Bool.and_eq_true,beq_iff_eq] at gd;obtain ⟨⟨gb,nE⟩,s6⟩:=gd;have hc:=Sl gb;obtain ⟨es,h1,h2⟩:=HJ (P:=P) (N:=N) (ops:=ops) (base:=hnew H) (ex:=ex) (dl:=dl) ops.size 0 fr H (by omega) nE s6 (by
  rw [List.take_of_length_le (by simp)];simpa using h)
 have fZ: ∀j,j<ops.size->dok (fb ops j) N=true/\sA P ops (hnew H) ex dl j (ops.getD j default) (frS ops es fr (fun _=>true) j) (hS (hnew H) es H (fun _=>true) j) (es j):=fun j hj=>by
  obtain ⟨g1,fr',H',g2,g3,g4⟩:=h1 j hj;rw [Nat.zero_add] at g1 g4;rw [zV] at g2;rw [zn] at g3;subst g2 g3;exact ⟨g1,g4⟩
 rw [zV,zn] at h2;refine ⟨fun B w0 Mx w ρ a hs=>wp_region_any hm (Qo (q:=ops.size) (zzA _) hs (PY (zzA _) hc rh (fun j hj=> .inr (fZ j hj).2) fZ (fun j h1 h2=>by omega) _ (fun listed a w ρ fF nD hs=>?_)))⟩;rw [Nat.sub_self];exact ⟨PX fF (fun i hi=>by rw [nD i hi];simp [hi]),ρ,_,_,h2,hs⟩
def yzo (P:Program) (N:Nat) (ops:Array Oper) (K:Fr->Hp->Prop) (fr:Fr) (H:Hp):Prop:=awL P N ops (ops.toList.drop (ops.size-1)) fr H K
theorem aj.ai {id:Nat} {fr:Fr} {H:Hp} {Q:Exit->Fr->Hp->Prop} (ex dl:List (List Nat)) (gd:(CO ops ex dl&&(ex.length==ops.size)&&(dl.length==ops.size)&&Rg ops&&N1 ops)=true) (hm:P.follows .mixedOrders=true)
  (h:awD P N ops (hnew H) 0 (ops.toList.take (ops.size-1)) ex dl fr H (yzo P N ops (Q .normal))):aj P N id ops fr H Q:=by
 simp only [Bool.and_eq_true,beq_iff_eq] at gd;obtain ⟨⟨⟨⟨gb,nE⟩,s6⟩,qx⟩,LA⟩:=gd;have hc:=Sl gb;unfold N1 at LA;simp only [Bool.and_eq_true,decide_eq_true_eq,Option.isNone_iff_eq_none,List.all_eq_true,zzK] at LA;obtain ⟨⟨j8,pC⟩,iT⟩:=LA
 obtain ⟨dv,Zr,CH⟩:=HJ (P:=P) (N:=N) (ops:=ops) (base:=hnew H) (ex:=ex) (dl:=dl) (ops.size-1) 0 fr H (by omega) nE s6 (by simpa only [List.drop_zero] using h);obtain ⟨es,LQ,Cg⟩: ∃es:Nat->Ent,es (ops.size-1)= .skip/\ ∀i,i<ops.size-1->es i=dv i:=⟨fun i=>if i<ops.size-1 then dv i else .skip,by simp,fun i hi=>by simp [hi]⟩
 have cV: ∀k,k<=ops.size-1->frS ops es fr (fun _=>true) k=frS ops dv fr (fun _=>true) k/\hS (hnew H) es H (fun _=>true) k=hS (hnew H) dv H (fun _=>true) k:=by
  intro k
  induction k with
  |zero=>intro _;exact ⟨rfl,rfl⟩
  |succ k ih=>
   intro hk;obtain ⟨i1,i2⟩:=ih (by omega);simp only [frS,hS,if_true,i1,i2,Cg k (by omega),and_self]
 have fZ: ∀j,j<ops.size-1->dok (fb ops j) N=true/\sA P ops (hnew H) ex dl j (ops.getD j default) (frS ops es fr (fun _=>true) j) (hS (hnew H) es H (fun _=>true) j) (es j):=fun j hj=>by
  obtain ⟨g1,fr',H',g2,g3,g4⟩:=Zr j hj;rw [Nat.zero_add] at g1 g4;rw [zV] at g2;rw [zn] at g3;subst g2 g3;rw [(cV j (by omega)).1,(cV j (by omega)).2,Cg j hj];exact ⟨g1,g4⟩
 rw [zV,zn,←(cV (ops.size-1) (zzA _)).1,←(cV (ops.size-1) (zzA _)).2] at CH;refine ⟨fun B w0 Mx w ρ a hs=>wp_region_any hm (Qo (q:=ops.size-1) (by omega) hs (PY (by omega) hc (fun i j a b hi hj av h1 h2 ha hb ua ub fy=>?_) (fun j hj=>?_) fZ (fun j h1 h2 i hi=>?_) _ (fun listed a w ρ fF nD hs=>?_)))⟩
 ·exfalso;have h0:=List.all_eq_true.1 (List.all_eq_true.1 qx j (by simpa using hj)) i (by simpa using hi);simp only [Bool.or_eq_true,beq_iff_eq,Bool.not_eq_true'] at h0;rcases h0 with ((h0|h0)|h0)|h0
  ·exact av h0
  ·unfold sB at h0;rw [ha,hb] at h0;simp only [u4,ua,ub,Bool.and_true,bne_eq_false_iff_eq] at h0;exact fy h0
  ·rw [h1] at h0;cases h0
  ·rw [h2] at h0;cases h0
 ·rcases Nat.lt_or_ge j (ops.size-1) with g|g
  ·exact .inr (fZ j g).2
  ·rw [show j=ops.size-1 by omega];exact .inl LQ
 ·rw [show j=ops.size-1 by omega];exact iT i hi
 ·rw [show ops.size-(ops.size-1)=0+1 by omega];refine ⟨fun bx=>?_,fun j hj=>?_⟩
  ·exfalso
   have:ops.size-1∈Region.ready .any ops listed:=mem_ready.2 ⟨by
    have b9:ops.size-1<listed.size:=by omega
    have:=nD (ops.size-1) (by omega)
    simpa [b9] using this,ops[ops.size-1],by simp,fun e he zd=>by
     have ax:=hc.elt (ops.size-1) (by omega) e.on (by
      simp only [nq,List.mem_map,List.mem_filter];refine ⟨e,⟨?_,zd⟩,rfl⟩;have w9:ops.getD (ops.size-1) default=ops[ops.size-1]:=by simp [show ops.size-1<ops.size by omega]
      rw [w9];simpa using he)
     rw [nD e.on (by omega)];simp [ax]⟩
   rw [bx] at this;cases this
  ·obtain ⟨g1,o,g2,g3⟩:=mem_ready.1 hj;have eJ:j<ops.size:=(Array.getElem?_eq_some_iff.1 g2).1;have b9:j<listed.size:=by omega
   have oN:listed.getD j false=false:=by simpa [b9] using g1
   have Fc:j=ops.size-1:=by
    rw [nD j eJ] at oN
    have: ¬j<ops.size-1:=by simpa using oN
    omega
   subst Fc;have ho:ops.getD (ops.size-1) default=o:=by simp [g2]
   unfold wpOp;rw [g2];simp only;rw [ho] at pC;unfold yzo at CH;have xc:ops.toList.drop (ops.size-1)=[o]:=by
    rw [List.drop_eq_getElem_cons (by simp;omega),List.drop_of_length_le (by simp;omega)]
    have:=(Array.getElem?_eq_some_iff.1 g2).2
    simpa using this
   rw [xc] at CH;simp only [awL,pC] at CH;rw [if_pos (by simp [Region.wanted,pC])];left;refine Oper.wp_mono ?_ (Av hs CH _);rintro a' w' ⟨ρ',fr',H',hq,bo⟩;exact ⟨PX (by simpa using fF) (fun i hi=>by
    by_cases e:i=ops.size-1
    ·subst e;simp [b9]
    ·rw [getD_set_ne false (Ne.symm e),nD i hi];simp;omega),ρ',fr',H',hq,bo⟩
theorem aj.intro {id:Nat} {fr:Fr} {H:Hp} {Q:Exit->Fr->Hp->Prop} (ex dl:List (List Nat)) (gd:(CO ops ex dl&&(ex.length==ops.size)&&(dl.length==ops.size)&&Rg ops)=true) (hm:P.follows .mixedOrders=true)
  (h:awD P N ops (hnew H) 0 ops.toList ex dl fr H (Q .normal)):aj P N id ops fr H Q:=by
 rw [Bool.and_eq_true] at gd;refine aj.wH ex dl gd.1 hm (fun i j a b hi hj av h1 h2 ha hb ua ub fy=>?_) h;exfalso;have h0:=List.all_eq_true.1 (List.all_eq_true.1 gd.2 j (by simpa using hj)) i (by simpa using hi);simp only [Bool.or_eq_true,beq_iff_eq,Bool.not_eq_true'] at h0;rcases h0 with ((h0|h0)|h0)|h0
 ·exact av h0
 ·unfold sB at h0;rw [ha,hb] at h0;simp only [u4,ua,ub,Bool.and_true,bne_eq_false_iff_eq] at h0;exact fy h0
 ·rw [h1] at h0;cases h0
 ·rw [h2] at h0;cases h0
end
inductive Tr where
 |done
 |node (l:List (Nat×Tr))
def trD:List Nat->Tr
 |[]=> .done
 |i::r=> .node [(i,trD r)]
def trP:List Nat->Tr->Tr
 |[],t=>t
 |i::r,t=> .node [(i,trP r t)]
mutual
def chkT (ops:Array Oper) (listed:Array Bool):Nat->Tr->Bool
 |0, .done=>(Region.ready .any ops listed).isEmpty
 |f+1, .node l=> !(Region.ready .any ops listed).isEmpty&&(Region.ready .any ops listed==l.map (·.1))&&C6 ops listed f l
 |_,_=>false
def C6 (ops:Array Oper) (listed:Array Bool) (f:Nat):List (Nat×Tr)->Bool
 |[]=>true
 |(i,t)::r=>chkT ops (listed.setIfInBounds i true) f t&&C6 ops listed f r
end
mutual
def awT (P:Program) (N:Nat) (ops:Array Oper):Tr->Fr->Hp->(Fr->Hp->Prop)->Prop
 | .done,fr,H,K=>K fr H
 | .node l,fr,H,K=>awTs P N ops l fr H K
def awTs (P:Program) (N:Nat) (ops:Array Oper):List (Nat×Tr)->Fr->Hp->(Fr->Hp->Prop)->Prop
 |[],_,_,_=>True
 |(i,t)::r,fr,H,K=>awL P N ops ((ops[i]?).toList) fr H (fun fr' H'=>awT P N ops t fr' H' K)/\awTs P N ops r fr H K
end
theorem Qn {P:Program} {N:Nat} {ops:Array Oper} {B:Nat} {w0:gU} {Mx:Nat->Prop} {w:World} {ρ:Nat->Addr} {fr:Fr} {H:Hp} {a:Act} {K:Fr->Hp->Prop} {i:Nat} {o:Oper} (hi:ops[i]?=some o) (hq:awL P N ops [o] fr H K) (hs:aA B w0 Mx N w ρ fr H a) (Q:Exit->Act->World->Prop) (K':Act->World->Prop) (hK: ∀a' w' ρ' fr' H',K fr' H'->aA B w0 Mx N w' ρ' fr' H' a'->K' a' w'):wpOp P ops Q i K' a w:=by
 unfold wpOp;rw [hi];simp only [awL] at hq⊢;have gF: ∀(a':Act) (w':World),(∃ρ' fr' H',K fr' H'/\aA B w0 Mx N w' ρ' fr' H' a')->K' a' w':=fun a' w' ⟨ρ',fr',H',h1,h2⟩=>hK a' w' ρ' fr' H' h1 h2
 split at hq
 ·rename_i hg
  have hw:Region.wanted o (yielded ops a.tmps)=true:=by simp [Region.wanted,hg]
  rw [if_pos hw];exact .inl (Oper.wp_mono gF (Av hs hq _))
 ·rename_i j b hg
  split at hq
  ·rename_i c hc
   have hy:=EE hs hc;by_cases iL:c=b
   ·have hw:Region.wanted o (yielded ops a.tmps)=true:=by simp [Region.wanted,hg,hy,iL]
    rw [if_pos hw];exact .inl (Oper.wp_mono gF (Av (hs.gput (iL▸hc)) (hq.1 iL) _))
   ·have hw: ¬Region.wanted o (yielded ops a.tmps)=true:=by simp [Region.wanted,hg,hy,iL]
    rw [if_neg hw];have nf:c= !b:=by cases c<;>cases b<;>simp_all
    obtain ⟨hd,hq⟩:=hq.2 nf;exact hK _ _ ρ _ _ hq ((hs.gput (nf▸hc)).put hd (.tup [] [] rfl (fun i v x h=>by simp at h)))
  ·rename_i hc
   have hy:=Ia hs hc;have hw: ¬Region.wanted o (yielded ops a.tmps)=true:=by simp [Region.wanted,hg,hy]
   rw [if_neg hw];exact hK _ _ ρ _ _ hq.2 (hs.put hq.1 (.tup [] [] rfl (fun i v x h=>by simp at h)))
  ·exact hq.elim
theorem Eh {P:Program} {N:Nat} {ops:Array Oper} {fr:Fr} {H:Hp} {K:Fr->Hp->Prop}: ∀(l:List (Nat×Tr)),awTs P N ops l fr H K-> ∀q∈l,awL P N ops ((ops[q.1]?).toList) fr H (fun fr' H'=>awT P N ops q.2 fr' H' K)
 |[],_,q,hq=>by cases hq
 |(i,t)::r,h,q,hq=>by
  simp only [awTs] at h;rcases List.mem_cons.1 hq with e|e
  ·subst e;exact h.1
  ·exact Eh r h.2 q e
theorem PW {ops:Array Oper} {listed:Array Bool} {f:Nat}: ∀(l:List (Nat×Tr)),C6 ops listed f l=true-> ∀q∈l,chkT ops (listed.setIfInBounds q.1 true) f q.2=true
 |[],_,q,hq=>by cases hq
 |(i,t)::r,h,q,hq=>by
  simp only [C6,Bool.and_eq_true] at h;rcases List.mem_cons.1 hq with e|e
  ·subst e;exact h.1
  ·exact PW r h.2 q e
theorem Xl {P:Program} {N:Nat} {ops:Array Oper} {B:Nat} {w0:gU} {Mx:Nat->Prop} {K:Fr->Hp->Prop} (Q:Exit->Act->World->Prop) (hQ: ∀a' w' ρ' fr' H',K fr' H'->aA B w0 Mx N w' ρ' fr' H' a'->Q .normal a' w'): ∀(f:Nat) (t:Tr) (listed:Array Bool) (w:World) (ρ:Nat->Addr) (fr:Fr) (H:Hp) (a:Act),chkT ops listed f t=true->awT P N ops t fr H K->aA B w0 Mx N w ρ fr H a->wpAny P .any ops Q f listed a w:=by
 intro f
 induction f with
 |zero=>
  intro t listed w ρ fr H a hc h hs;cases t with
  |done=>
   simp only [chkT,List.isEmpty_iff] at hc;simp only [awT] at h;exact ⟨hc,hQ _ _ ρ _ _ h hs⟩
  |node l=>simp [chkT] at hc
 |succ f ih=>
  intro t listed w ρ fr H a hc h hs;cases t with
  |done=>simp [chkT] at hc
  |node l=>
   simp only [chkT,Bool.and_eq_true,Bool.not_eq_true',beq_iff_eq] at hc;simp only [awT] at h;refine ⟨fun bx=>by rw [bx] at hc;simp at hc,fun i hi=>?_⟩;rw [hc.1.2] at hi;obtain ⟨q,hq,rfl⟩:=List.mem_map.1 hi;have h1:=Eh l h q hq;have h2:=PW l hc.2 q hq;have hr:q.1∈Region.ready .any ops listed:=by rw [hc.1.2];exact List.mem_map_of_mem hq
   obtain ⟨_,o,g2,_⟩:=mem_ready.1 hr;rw [g2] at h1;exact Qn g2 h1 hs _ _ fun a' w' ρ' fr' H' hk bo=>ih q.2 _ w' ρ' fr' H' a' h2 hk bo
theorem aj.ay {P:Program} {N:Nat} {ops:Array Oper} {id:Nat} {fr:Fr} {H:Hp} {Q:Exit->Fr->Hp->Prop} (t:Tr) (gd:chkT ops (Array.replicate ops.size false) ops.size t=true) (hm:P.follows .mixedOrders=true)
  (h:awT P N ops t fr H (Q .normal)):aj P N id ops fr H Q:=
 ⟨fun _ _ _ _ ρ a hs=>wp_region_any hm (Xl _ (fun _ _ ρ' fr' H' hk bo=>⟨ρ',fr',H',hk,bo⟩) ops.size t _ _ ρ fr H a gd h hs.draw)⟩
section
variable {P:Program} {N:Nat} {ops:Array Oper} {fr fr':Fr} {H H':Hp} {K:Fr->Hp->Prop}
theorem y1o {t:Tr} (h1:fr=fr') (h2:H=H'):awT P N ops t fr H K=awT P N ops t fr' H' K:=by rw [h1,h2]
theorem yzp {l:List (Nat×Tr)} (h1:fr=fr') (h2:H=H'):awTs P N ops l fr H K=awTs P N ops l fr' H' K:=by rw [h1,h2]
end
attribute [congr] y1o yzp
attribute [go_sem] trD trP awT awTs Option.toList_some
section
variable (P:Program) (N:Nat) (ops:Array Oper) (base j:Nat) (fr:Fr) (H:Hp) (K:Fr->Hp->Prop)
structure Rf (d:Option Nat) (Hd:Hp) (r:List Oper) (aZ a7:List (List Nat)) (g:Nat) (xs:List AV):Prop where
 out:C7 P g xs Hd (base+j) (fun x=>awD P N ops base (j+1) r aZ a7 (fput fr d x) H K) (fun x ob=>awD P N ops base (j+1) r aZ a7 (fput fr d x) ((base+j,ob)::H) K)
def kQ (o:Oper) (r:List Oper) (aZ a7:List (List Nat)) (p:Prop) (x:AV):Prop:=p/\awD P N ops base (j+1) r aZ a7 (fput fr o.dst x) H K
def kR (o:Oper) (r:List Oper) (aZ:List (List Nat)) (dl:List Nat) (a7:List (List Nat)) (p:Prop) (x:AV):Prop:=(yap (dl.map (base+ ·)) H).all (fun q=>sO (yap (dl.map (base+ ·)) H) q.2)=true/\p/\awD P N ops base (j+1) r aZ a7 (fput fr o.dst x) H K
def kA (o:Oper) (r:List Oper) (aZ a7:List (List Nat)) (p:Prop) (q:AV×AObj):Prop:=p/\awD P N ops base (j+1) r aZ a7 (fput fr o.dst q.1) ((base+j,q.2)::H) K
def kS (o:Oper) (r:List Oper) (aZ a7:List (List Nat)) (p:Prop) (q:Nat×AObj):Prop:=p/\awD P N ops base (j+1) r aZ a7 (fput fr o.dst .any) (hset H q.1 q.2) K
def kI (o:Oper) (r:List Oper) (aZ a7:List (List Nat)) (p:Prop) (q:Nat×Int×Int):Prop:=p/\awD P N ops base (j+1) r aZ a7 (fput fr o.dst .any) (insE H q.1 q.2.1 q.2.2) K
def kP (o:Oper) (r:List Oper) (aZ a7:List (List Nat)) (p:Prop) (q:AV×Option Nat×AObj):Prop:=p/\awD P N ops base (j+1) r aZ a7 (fput fr o.dst q.1) ((base+j,q.2.2)::hgo H q.2.1) K
def kC (o:Oper) (r:List Oper) (aZ:List (List Nat)) (dl:List Nat) (a7:List (List Nat)) (xs:List AV) (g:Nat) (cap:List AV):Prop:=(yap (dl.map (base+ ·)) H).all (fun q=>sO (yap (dl.map (base+ ·)) H) q.2)=true/\Rf P N ops base j fr H K o.dst (yap (dl.map (base+ ·)) H) r aZ a7 g (xs++cap)
def awDX (o:Oper) (r:List Oper) (ex:List Nat) (aZ:List (List Nat)) (dl:List Nat) (a7:List (List Nat)):Prop:=match o.op with
 | .store t x y=>mO (stF P H t (evA (bN ex fr) x) (evA (bN ex fr) y)) (kS P N ops base j fr H K o r aZ a7) False
 | .insert t m k v=>mO (inF P H t (evA (bN ex fr) m) (evA (bN ex fr) k) (evA (bN ex fr) v)) (kI P N ops base j fr H K o r aZ a7) False
 | .call {callee:= .builtin .append,args:=args,argTypes:=ts}=>match args.toList,ts.toList with
   |[s,x],[t,t']=>t=t'/\mO (apG P (base+j) H t (evA (bN ex fr) s) (evA (bN ex fr) x)) (kP P N ops base j fr H K o r aZ a7) False
   |_,_=>False
 | .call {callee:= .value f,args:=args, .. }=>mF (evA (jT (yap (dl.map (base+ ·)) H) (bN ex fr)) f) (kC P N ops base j fr H K o r aZ dl a7 (args.toList.map (evA (jT (yap (dl.map (base+ ·)) H) (bN ex fr)))))
 |_=>False
def awDn (o:Oper) (r:List Oper) (ex:List Nat) (aZ:List (List Nat)) (dl:List Nat) (a7:List (List Nat)):Prop:=cvOk P o.op=true/\dok o.dst N=true/\if yco o.op then mO (quF P H (evA (bN ex fr)) o.op) (kQ P N ops base j fr H K o r aZ a7) False
    else mO (quF P (yap (dl.map (base+ ·)) H) (evA (jT (yap (dl.map (base+ ·)) H) (bN ex fr))) o.op) (kR P N ops base j fr H K o r aZ dl a7)
     (mO (alF P (base+j) (evA (bN ex fr)) o.op) (kA P N ops base j fr H K o r aZ a7) (awDX P N ops base j fr H K o r ex aZ dl a7))
theorem Ob (o:Oper) (r:List Oper) (ex:List Nat) (aZ:List (List Nat)) (dl:List Nat) (a7:List (List Nat)):(awD.awDO P N base j o ex dl fr H fun fr' H'=>awD P N ops base (j+1) r aZ a7 fr' H' K)=awDn P N ops base j fr H K o r ex aZ dl a7:=by
 unfold awD.awDO awDn awDX mO
 split
 ·rcases quF P H (evA (bN ex fr)) o.op with _|⟨p,r⟩<;>rfl
 ·rcases quF P (yap (dl.map (base+ ·)) H) (evA (jT (yap (dl.map (base+ ·)) H) (bN ex fr))) o.op with _|⟨p,r⟩
  ·rcases alF P (base+j) (evA (bN ex fr)) o.op with _|⟨p,r,ob⟩
   ·simp only;generalize o.op=op;cases op<;>try rfl
    case store t x y=>
     simp only;rcases stF P H t (evA (bN ex fr) x) (evA (bN ex fr) y) with _|⟨p,i,ob⟩<;>rfl
    case insert t m k v=>
     simp only;rcases inF P H t (evA (bN ex fr) m) (evA (bN ex fr) k) (evA (bN ex fr) v) with _|⟨p,i,n,x⟩<;>rfl
    case call c=>
     obtain ⟨callee,args,ts⟩:=c;cases callee<;>try rfl
     case builtin b=>
      cases b<;>try rfl
      generalize hl:args.toList=l1;generalize hm:ts.toList=l2;simp only [hl,hm]
      match l1,l2 with
      |[s,x],[t,t']=>
       simp only;rcases apG P (base+j) H t (evA (bN ex fr) s) (evA (bN ex fr) x) with _|⟨p,r,g,ob⟩<;>rfl
      |[],_=>rfl
      |[_],_=>rfl
      |_::_::_::_,_=>rfl
      |[_,_],[]=>rfl
      |[_,_],[_]=>rfl
      |[_,_],_::_::_::_=>rfl
     case value f=>
      simp only [mF,kC];cases evA (jT (yap (dl.map (base+ ·)) H) (bN ex fr)) f<;>first|rfl|(simp only [eq_iff_iff];exact ⟨fun h=>⟨h.1,h.2.1,h.2.2.1,⟨h.2.2.2⟩⟩,fun h=>⟨h.1,h.2.1,h.2.2.1,h.2.2.2.out⟩⟩)
   ·rfl
  ·rfl
def iV (c b:Bool) (o:Oper) (r:List Oper) (ex:List Nat) (aZ:List (List Nat)) (dl:List Nat) (a7:List (List Nat)):Prop:=(c=b->awDn P N ops base j fr H K o r ex aZ dl a7)/\(c= !b->dok o.dst N=true/\awD P N ops base (j+1) r aZ a7 (fput fr o.dst (.tup [])) H K)
section
variable (o:Oper) (r:List Oper) (ex:List Nat) (aZ:List (List Nat)) (dl:List Nat) (a7:List (List Nat))
theorem yaab:iV P N ops base j fr H K true true o r ex aZ dl a7=awDn P N ops base j fr H K o r ex aZ dl a7:=by simp [iV]
theorem yaac:iV P N ops base j fr H K false false o r ex aZ dl a7=awDn P N ops base j fr H K o r ex aZ dl a7:=by simp [iV]
theorem yaad:iV P N ops base j fr H K true false o r ex aZ dl a7=(dok o.dst N=true/\awD P N ops base (j+1) r aZ a7 (fput fr o.dst (.tup [])) H K):=by simp [iV]
theorem yaae:iV P N ops base j fr H K false true o r ex aZ dl a7=(dok o.dst N=true/\awD P N ops base (j+1) r aZ a7 (fput fr o.dst (.tup [])) H K):=by simp [iV]
end
def kG (b:Bool) (o:Oper) (r:List Oper) (ex:List Nat) (aZ:List (List Nat)) (dl:List Nat) (a7:List (List Nat)) (c:Bool):Prop:=iV P N ops base j fr H K c b o r ex aZ dl a7
def kZ (o:Oper) (r:List Oper) (aZ a7:List (List Nat)) (_:Unit):Prop:=dok o.dst N=true/\awD P N ops base (j+1) r aZ a7 (fput fr o.dst (.tup [])) H K
theorem kZ_eq (o:Oper) (r:List Oper) (aZ a7:List (List Nat)) (u:Unit):kZ P N ops base j fr H K o r aZ a7 u=(dok o.dst N=true/\awD P N ops base (j+1) r aZ a7 (fput fr o.dst (.tup [])) H K):=rfl
def awDg (o:Oper) (r:List Oper) (ex:List Nat) (aZ:List (List Nat)) (dl:List Nat) (a7:List (List Nat)):Prop:=match o.guard with
 |none=>awDn P N ops base j fr H K o r ex aZ dl a7
 |some (g,b)=>mG (gval ops (bN ex fr) g) (kG P N ops base j fr H K b o r ex aZ dl a7) (kZ P N ops base j fr H K o r aZ a7)
theorem kQ_eq (o:Oper) (r:List Oper) (aZ a7:List (List Nat)) (p:Prop) (x:AV):kQ P N ops base j fr H K o r aZ a7 p x=(p/\awD P N ops base (j+1) r aZ a7 (fput fr o.dst x) H K):=rfl
theorem kR_eq (o:Oper) (r:List Oper) (aZ:List (List Nat)) (dl:List Nat) (a7:List (List Nat)) (p:Prop) (x:AV):kR P N ops base j fr H K o r aZ dl a7 p x=((yap (dl.map (base+ ·)) H).all (fun q=>sO (yap (dl.map (base+ ·)) H) q.2)=true/\p/\awD P N ops base (j+1) r aZ a7 (fput fr o.dst x) H K):=rfl
theorem kA_eq (o:Oper) (r:List Oper) (aZ a7:List (List Nat)) (p:Prop) (x:AV) (y:AObj):kA P N ops base j fr H K o r aZ a7 p (x,y)=(p/\awD P N ops base (j+1) r aZ a7 (fput fr o.dst x) ((base+j,y)::H) K):=rfl
theorem kS_eq (o:Oper) (r:List Oper) (aZ a7:List (List Nat)) (p:Prop) (x:Nat) (y:AObj):kS P N ops base j fr H K o r aZ a7 p (x,y)=(p/\awD P N ops base (j+1) r aZ a7 (fput fr o.dst .any) (hset H x y) K):=rfl
theorem kI_eq (o:Oper) (r:List Oper) (aZ a7:List (List Nat)) (p:Prop) x y z:kI P N ops base j fr H K o r aZ a7 p (x,y,z)=(p/\awD P N ops base (j+1) r aZ a7 (fput fr o.dst .any) (insE H x y z) K):=rfl
theorem kP_eq (o:Oper) (r:List Oper) (aZ a7:List (List Nat)) (p:Prop) x y z:kP P N ops base j fr H K o r aZ a7 p (x,y,z)=(p/\awD P N ops base (j+1) r aZ a7 (fput fr o.dst x) ((base+j,z)::hgo H y) K):=rfl
theorem kC_eq (o:Oper) (r:List Oper) (aZ:List (List Nat)) (dl:List Nat) (a7:List (List Nat)) (xs:List AV) (g:Nat) (cap:List AV):kC P N ops base j fr H K o r aZ dl a7 xs g cap=((yap (dl.map (base+ ·)) H).all (fun q=>sO (yap (dl.map (base+ ·)) H) q.2)=true/\Rf P N ops base j fr H K o.dst (yap (dl.map (base+ ·)) H) r aZ a7 g (xs++cap)):=rfl
theorem kG_eq (b:Bool) (o:Oper) (r:List Oper) (ex:List Nat) (aZ:List (List Nat)) (dl:List Nat) (a7:List (List Nat)) (c:Bool):kG P N ops base j fr H K b o r ex aZ dl a7 c=(iV P N ops base j fr H K c b o r ex aZ dl a7):=rfl
theorem yaaf (e d:List (List Nat)):awD P N ops base j [] e d fr H K=K fr H:=by simp only [awD]
theorem y6h (o:Oper) (r:List Oper) (ex:List Nat) (aZ:List (List Nat)) (dl:List Nat) (a7:List (List Nat)):awD P N ops base j (o::r) (ex::aZ) (dl::a7) fr H K=awDg P N ops base j fr H K o r ex aZ dl a7:=by
 unfold awDg mG kG iV kZ;simp only [awD];rcases o.guard with _|⟨g,b⟩
 ·exact Ob P N ops base j fr H K o r ex aZ dl a7
 ·simp only;rcases gval ops (bN ex fr) g with _|_|_|_|_|(_|_)|_|_|_|_|_|_|_<;>first|rfl|(simp only [nK,Ob])
end
theorem ae {P:Program} {N:Nat} {ops:Array Oper} {base j:Nat} {fr:Fr} {H:Hp} {K:Fr->Hp->Prop} {c b:Bool} {o:Oper} {r:List Oper} {ex:List Nat} {aZ:List (List Nat)} {dl:List Nat} {a7:List (List Nat)} (h1:c=b->awDn P N ops base j fr H K o r ex aZ dl a7) (h2:c= !b->dok o.dst N=true/\awD P N ops base (j+1) r aZ a7 (fput fr o.dst (.tup [])) H K):iV P N ops base j fr H K c b o r ex aZ dl a7:=⟨h1,h2⟩
section
variable {P:Program} {N base j:Nat} {fr fr':Fr} {H H':Hp}
theorem y1p {ops:Array Oper} {r:List Oper} {e d:List (List Nat)} {j':Nat} {K:Fr->Hp->Prop} (h0:j=j') (h1:fr=fr') (h2:H=H'):awD P N ops base j r e d fr H K=awD P N ops base j' r e d fr' H' K:=by rw [h0,h1,h2]
end
def scV (H:Hp) (x:AV):AV:=if s3 H x then x else .any
def MC (b:Bool) (x:AV):AV:=if b then .any else x
theorem yaag (H:Hp) (fr:Fr) (t:Nat):fget (jT H fr) t=scV H (fget fr t):=by
 induction fr with
 |nil=>rfl
 |cons p r ih=>
  obtain ⟨s,x⟩:=p;simp only [jT,fget];by_cases h:s=t
  ·simp [h,scV]
  ·simp only [h,if_false];exact ih
theorem yaah (ex:List Nat) (fr:Fr) (t:Nat):fget (bN ex fr) t=MC (ex.contains t) (fget fr t):=by rw [HK];rfl
theorem erV_t (x:AV):MC true x= .any:=rfl
theorem erV_f (x:AV):MC false x=x:=rfl
attribute [congr] y1p
attribute [go_sem] kZ_eq kQ_eq kR_eq kA_eq kS_eq kI_eq kP_eq kC_eq kG_eq sepF sep2 sepV bne_self_eq_false inF inK inO insE insO yej awDX awDn yaab yaac yaad yaae awDg yaaf y6h
attribute [go_sem] yzo yaag yaah erV_t erV_f scV apG apG.n2E hgo yap yco loud List.contains_cons List.contains_nil beq_self_eq_true
attribute [go_sem] AObj.cells.injEq Cs.ints.injEq Cs.bools.injEq Cs.lst.injEq AV.int.injEq AV.sl.injEq AV.ro.injEq AV.ptr.injEq AV.agg.injEq AV.tup.injEq AV.str.injEq AV.rp.injEq AV.fn.injEq Prod.mk.injEq List.cons.injEq Int.natCast_add Int.natCast_one Int.natCast_zero Int.natCast_mul Nat.succ_eq_add_one zzF List.length_drop List.length_take
structure az (x y:AV):Prop where
 out: ∀(w:World) (M:Nat->Prop) (ρ:Nat->Addr) (D:Nat->Prop) (v:Value),VR w M ρ D v x->VR w M ρ D v y
theorem az.refl (x:AV):az x x:=⟨fun _ _ _ _ _ h=>h⟩
theorem az.of {x y:AV} (h:x=y):az x y:=h▸az.refl x
theorem az.nils {es:Nat} {c:Cs} (he:0<es) (hc:c.len=0):az .nils (.ro es 0 c):=⟨fun w M ρ D v h=>by
 have e:=h.bP;subst e;exact .ro es 0 c none 0 (fun _=>undef) (by simp [hc]) (zzA _) he (fun h=>by omega) (fun j hj=>by omega)⟩
theorem az.agg {xs ys:List AV} (hl:xs.length=ys.length) (h: ∀(i:Nat) (x y:AV),xs[i]?=some x->ys[i]?=some y->az x y):az (.agg xs) (.agg ys):=⟨fun w M ρ D v hv=>by
 obtain ⟨vs,rfl,uf,hx⟩:=hv.aL;refine .agg vs ys (uf.trans hl) fun i v y hi hy=>?_;have ax:i<xs.length:=by
  have:=List.getElem?_eq_some_iff.1 hi;obtain ⟨h1,_⟩:=this;omega
 exact (h i xs[i] y (zzI ax) hy).out w M ρ D v (hx i v _ hi (zzI ax))⟩
theorem az.tup {xs ys:List AV} (hl:xs.length=ys.length) (h: ∀(i:Nat) (x y:AV),xs[i]?=some x->ys[i]?=some y->az x y):az (.tup xs) (.tup ys):=⟨fun w M ρ D v hv=>by
 obtain ⟨vs,rfl,uf,hx⟩:=hv.dy;refine .tup vs ys (uf.trans hl) fun i v y hi hy=>?_;have ax:i<xs.length:=by
  have:=List.getElem?_eq_some_iff.1 hi;obtain ⟨h1,_⟩:=this;omega
 exact (h i xs[i] y (zzI ax) hy).out w M ρ D v (hx i v _ hi (zzI ax))⟩
inductive sv:List AV->List AV->Prop where
 |nil:sv [] []
 |cons {x y:AV} {xs ys:List AV}:az x y->sv xs ys->sv (x::xs) (y::ys)
theorem sv.len {xs ys:List AV} (h:sv xs ys):xs.length=ys.length:=by
 induction h with
 |nil=>rfl
 |cons _ _ ih=>simp [ih]
theorem sv.get {xs ys:List AV} (h:sv xs ys): ∀(i:Nat) (x y:AV),xs[i]?=some x->ys[i]?=some y->az x y:=by
 induction h with
 |nil=>intro i x y h;cases h
 |cons h1 _ ih=>
  intro i x y hx hy;cases i with
  |zero=>simp only [List.getElem?_cons_zero,Option.some.injEq] at hx hy;subst hx hy;exact h1
  |succ i=>exact ih i x y (by simpa using hx) (by simpa using hy)
theorem az.iA {xs ys:List AV} (h:sv xs ys):az (.agg xs) (.agg ys):= .agg h.len h.get
theorem az.KD {xs ys:List AV} (h:sv xs ys):az (.tup xs) (.tup ys):= .tup h.len h.get
section
variable {P:Program} {f:Nat} {args:List AV} {r r':AV}
theorem Fn.arg (h:Fn P f args r) {args':List AV} (ha:sv args' args):Fn P f args' r:=
 ⟨h.1,fun w Mx vs h1 h2 h3=>h.2 w Mx vs h1 (h2.trans ha.len) fun i v x hv hx=>by
  have ax:i<args'.length:=by
   have:=List.getElem?_eq_some_iff.1 hv;obtain ⟨g1,_⟩:=this;omega
  exact (ha.get i args'[i] x (zzI ax) hx).out _ _ _ _ v (h3 i v _ hv (zzI ax))⟩
def retL (P:Program) (rs:List ResultVar) (r:AV) (e:Exit) (fr:Fr) (H:Hp):Prop:=
 (e= .ret\/e= .normal)/\match resL P fr H rs with
 |some (p,l)=>p/\c9 H 6 (yft l)/\az (snap H 6 (yft l)) r
 |none=>False
theorem Fn.ai {fn:Func} {c:Code} (rs:List ResultVar) (hf:P.funcs[f]?=some fn) (hb:fn.body=some c) (wT:fn.results.toList=rs) (hn:(fn.name== "runtime.NumGoroutine")=false) (hl:args.length<=fn.ntmps/\fn.ntmps<=1000000)
  (h:iX P fn.ntmps c (frOf 0 args) [] (retL P rs r)):Fn P f args r:=by
 subst wT;refine ⟨⟨fn,hf,by rw [hb];rfl,hn⟩,fun w Mx vs gn vD hv=>?_⟩
 have rf:aA w.heap.size ⟨w,fun _=>undef⟩ Mx 0 w ρ0 [] [] {tmps:= #[],defers:=[]}:=
  ⟨Below.refl _ _,zzA _,gn.2,(fun id o h=>by cases h),(fun id o h=>by cases h),(fun id o _ _ h=>by cases h),fun t=> .any _,⟨rfl,fun _ hb=>gn.1.later hb⟩,by simp,by omega⟩
 have Mj:MM Mx [] ρ0=Mx:=by
  funext x;apply propext;constructor
  ·rintro (g|⟨id,o,g,_⟩)
   ·exact g
   ·cases g
  ·exact Or.inl
 have Co:gq P f args [] [] (fun r' _ H'=>c9 H' 6 r'/\az (snap H' 6 r') r):=by
  refine ⟨fn,c,hf,hb,hn,hl,?_⟩;rw [show frOf 0 args++lft []=frOf 0 args by simp [lft]];refine h.mono fun e fr H hq=>⟨hq.1,?_⟩;have mU:=hq.2;revert mU;cases resL P fr H fn.results.toList with
  |none=>exact fun h=>h
  |some q=>exact fun h=>h
 obtain ⟨_,dp⟩:=EK (P:=P) rf Co vD (fun i v x g1 g2=>by rw [Mj];exact (hv i v x g1 g2).D0);refine dp.mono ?_;rintro e w' ⟨v,r',ρ',fr',H',rfl,⟨hp,hle⟩,hs,wP⟩;exact ⟨v,rfl,hs.below,hle.out _ _ _ _ v (DY hs (My:=Mx) (ρ0:=ρ0) (fun _ h=>h) 6 v r' wP hp)⟩
end
attribute [go_sem] retL
end Go.Proofs.YtmdjdekgakidhaaGreatDoor
