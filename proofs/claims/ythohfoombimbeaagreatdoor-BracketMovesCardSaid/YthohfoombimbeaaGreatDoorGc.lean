/- The author's own program logic: statements that draw their order; results told less exactly. -/
import Derived.Test.YthohfoombimbeaaGreatDoorGb
set_option linter.unusedSimpArgs false
set_option linter.unusedVariables false
namespace Go.Proofs.YthohfoombimbeaaGreatDoor
open Go Go.RowKit
section
variable{P:Program}{B:Nat}{w0:js}{Mx:Nat->Prop}{N:Nat}{w:World}{ρ:Nat->Addr}{fr:Fr}{H:Hp}{a:Act}
theorem aO.FR(h:aO B w0 Mx N w ρ fr H a){aP:Nat}(hn:hget H aP=none){w1:js}{w':World}{ρ':Nat->Addr}{N0:Nat}{a0:Act}{M0:Nat->Prop}{t:Nat}{l:Cs}(hI:∀j,j<l.len->∃k,l.get j=I k)(xv:w1.w=w)(k:aO w.heap.size w1 M0 N0 w' ρ' [] [(0,.cells t l)] a0):
  aO B w0 Mx N w' (e8 ρ aP (ρ' 0)) fr ((aP,.cells t l)::H) a/\ ∀v es n,VR w' (MM M0 [(0,.cells t l)] ρ') ρ' (DD [(0,.cells t l)]) v (.sl es 0 0 n)->VR w' (MM Mx ((aP,.cells t l)::H) (e8 ρ aP (ρ' 0))) (e8 ρ aP (ρ' 0)) (DD ((aP,.cells t l)::H)) v (.sl es aP 0 n):=by
 have eH:=k.below;rw[xv]at eH;have B0:w.heap.size<=(ρ' 0).block:=(k.own 0 _ rfl rfl).1;have e0:e8 ρ aP (ρ' 0) aP=ρ' 0:=by simp[e8]
 have e1:∀i,i≠aP->e8 ρ aP (ρ' 0) i=ρ i:=fun i hi=>by simp[e8,hi]
 have cs:∀i o,hget ((aP,.cells t l)::H) i=some o->(i=aP/\o= .cells t l)\/(i≠aP/\hget H i=some o):=fun i o ho=>by
  simp only[hget]at ho;by_cases e:aP=i
  ·rw[zM e]at ho;exact .inl ⟨e.symm,(Option.some.inj ho).symm⟩
  ·rw[zL e]at ho;exact .inr ⟨fun e'=>e e'.symm,ho⟩
 have aC:∀i o,hget H i=some o->i≠aP:=fun i o ho e=>by rw[e,hn]at ho;cases ho
 have kT:∀i o,hget H i=some o->hget ((aP,.cells t l)::H) i=some o:=fun i o ho=>by
  simp only[hget];rw[zL (fun e=>aC i o ho e.symm)];exact ho
 have hMo:∀x,x<w.heap.size->MM Mx ((aP,.cells t l)::H) (e8 ρ aP (ρ' 0)) x->MM Mx H ρ x:=fun x hx hm=>by
  rcases hm with g|⟨i,o,g1,g2,g3⟩
  ·exact .inl g
  ·rcases cs i o g1 with ⟨rfl,rfl⟩|⟨q1,q2⟩
   ·rw[e0]at g3;omega
   ·rw[e1 i q1]at g3;exact .inr ⟨i,o,q2,g2,g3⟩
 have hold:∀{v:Value} {x:AV},VR w (MM Mx H ρ) ρ (DD H) v x->VR w' (MM Mx ((aP,.cells t l)::H) (e8 ρ aP (ρ' 0))) (e8 ρ aP (ρ' 0)) (DD ((aP,.cells t l)::H)) v x:=fun hv=>by
  refine hv.carry eH.size (fun x hx hm=>⟨eH.block x hx,fun g=>hm (hMo x hx g)⟩) (fun i hd=>?_);obtain⟨o,ho⟩:=hd;exact⟨⟨o,kT i o ho⟩,e1 i (aC i o ho),fun arr t ha=>⟨arr,(eH.block _ (gA ha)).trans ha,rfl⟩⟩
 have qO:=k.objs 0 _ rfl;obtain⟨f1,arr,f2,f3,f4⟩:=qO;refine⟨⟨h.below.trans (eH.mono h.hB),Nat.le_trans h.hB eH.size,fun x hx=>Nat.lt_of_lt_of_le (h.mx x hx) eH.size,fun i o g1 g2=>?_,fun i o g1=>?_,fun i o i' o' g1 g2 g3 g4 g5=>?_,fun t=>hold (h.frv t),h.defers,h.size⟩,fun v es n hv=>?_⟩
 ·rcases cs i o g1 with ⟨rfl,rfl⟩|⟨q1,q2⟩
  ·rw[e0];exact⟨Nat.le_trans h.hB B0,fun hx=>by have:=h.mx _ hx;omega⟩
  ·rw[e1 i q1];exact h.own i o q2 g2
 ·rcases cs i o g1 with ⟨rfl,rfl⟩|⟨q1,q2⟩
  ·exact⟨by rw[e0];exact f1,arr,by rw[e0];exact f2,by rw[e0];exact f3,fun j hj=>let ⟨u,hu,hx⟩:=f4 j hj;⟨u,by rw[e0];exact hu,by obtain⟨k,e⟩:=hI j hj;rw[e]at hx⊢;obtain rfl:=VR.aq hx;exact .int _ _⟩⟩
  ·have hr:=h.objs i o q2;cases o with
   |gone=>trivial
   |cells t c=>
    obtain⟨f1,arr,f2,f3,f4⟩:=hr;exact⟨by rw[e1 i q1];exact f1,arr,by rw[e1 i q1];exact(eH.block _ (gA f2)).trans f2,by rw[e1 i q1];exact f3,fun j hj=>let ⟨u,hu,hx⟩:=f4 j hj;⟨u,by rw[e1 i q1];exact hu,hold hx⟩⟩
   |gmap t ck l=>
    obtain⟨es,k1,k2,k3⟩:=hr;exact⟨es,by rw[e1 i q1];exact(eH.block _ (gA k1)).trans k1,k2,fun j e q he hl=>let ⟨g1,g2,g3⟩:=k3 j e q he hl;⟨g1,g2,hold g3⟩⟩
   |iter dB s sn la=>
    obtain⟨k1,k2,k3⟩:=hr;obtain⟨om,vX⟩:=k1;exact⟨⟨om,kT dB om vX⟩,by rw[e1 i q1];exact k2,by rw[e1 i q1,e1 dB (aC dB om vX)];exact(eH.block _ (gA k3)).trans k3⟩
   |imap t l=>
    obtain⟨k0,es,ck,k1,k2,k3⟩:=hr;exact⟨k0,es,ck,by rw[e1 i q1];exact(eH.block _ (gA k1)).trans k1,k2,fun j e k x he hl=>let ⟨g1,g2,g3⟩:=k3 j e k x he hl;⟨g1,hold g2,g3⟩⟩
   |fmap t c=>
    obtain⟨k0,es,ck,k1,k2⟩:=hr;exact⟨k0,es,ck,by rw[e1 i q1];exact(eH.block _ (gA k1)).trans k1,k2⟩
 ·have fresh:∀i o,hget H i=some o->o.live=true->(ρ i).block<w.heap.size:=fun i o g1 g2=>by
   exact h.mb _ (.inr ⟨i,o,g1,g2,rfl⟩)
  rcases cs i o g1 with ⟨rfl,rfl⟩|⟨q1,q2⟩
  ·rcases cs i' o' g3 with ⟨rfl,rfl⟩|⟨r1,r2⟩
   ·rfl
   ·rw[e0,e1 i' r1]at g5;have:=fresh i' o' r2 g4;omega
  ·rcases cs i' o' g3 with ⟨rfl,rfl⟩|⟨r1,r2⟩
   ·rw[e0,e1 i q1]at g5;have:=fresh i o q2 g2;omega
   ·rw[e1 i q1,e1 i' r1]at g5;exact h.inj i o i' o' q2 g2 r2 g4 g5
 ·cases hv with
  |sl _ _ _ _ cap hd hc arr t2 ad ha hb hr=>
   refine .sl es aP 0 n cap ⟨.cells t l,by simp[hget]⟩ hc arr t2 ad ?_ ?_ ?_
   ·rw[e0];exact ha
   ·rw[e0];exact hb
   ·rw[e0];exact hr
theorem YJ(h:aO B w0 Mx N w ρ fr H a){f:Nat}{xs:List AV}{aP:Nat}{K:AV->AObj->Prop}(hc:KW P f xs H aP K){vs:List Value}(hl:vs.length=xs.length)
  (hv:∀(i:Nat) (v:Value) (x:AV),vs[i]?=some v->xs[i]?=some x->VR w (MM Mx H ρ) ρ (DD H) v x):
  nW P f/\Calls P f vs.toArray w fun e w'=>∃v es n t l ρ' M0,e= .returned v/\(∀j,j<l.len->∃k,l.get j=I k)/\K (.sl es aP 0 n) (.cells t l)/\aO w.heap.size ⟨w,fun _=>undef⟩ M0 0 w' ρ' [] [(0,.cells t l)] {tmps:= #[],defers:=[]}/\VR w' (MM M0 [(0,.cells t l)] ρ') ρ' (DD [(0,.cells t l)]) v (.sl es 0 0 n):=by
 obtain⟨es,n,t,l,hI,uJ,hk⟩:=hc;rcases uJ with ⟨hp,dt,hfn⟩|⟨hs,dt,hfn⟩
 ·refine⟨dt,(hfn w (MM Mx H ρ) vs ⟨h.eZ,h.mb⟩ hl fun i v x h1 h2=>(hv i v x h1 h2).og (zZ.1 hp _ (zQ h2))).mono ?_⟩;rintro e w' ⟨v,ρ',rfl,a7,hr⟩;exact⟨v,es,n,t,l,ρ',_,rfl,hI,hk,a7,hr⟩
 ·have JT:∀(i:Nat) (v:Value) (x:AV),vs[i]?=some v->(xs.map (snap H 6))[i]?=some x->VR w (fun _=>False) ρ0 (fun _=>False) v x:=fun i v x h1 h2=>by
   simp only[zR]at h2;obtain⟨x',g1,rfl⟩:=zzB.1 h2;exact II h (fun _ h=>h.elim) 6 v x' (hv i v x' h1 g1) (hs _ (zQ g1))
  refine⟨dt,(hfn w (fun _=>False) vs ⟨h.eZ,fun _ h=>h.elim⟩ (by simpa using hl) JT).mono ?_⟩;rintro e w' ⟨v,ρ',rfl,a7,hr⟩;exact⟨v,es,n,t,l,ρ',_,rfl,hI,hk,a7,hr⟩
end
theorem Td{ops:Array Oper}{es:Nat->ed}:∀(d j:Nat) (fr:Fr),qa ops es j fr (d+1)=fput (qa ops es j fr d) (fG ops (j+d)) (es (j+d)).val
 |0,j,fr=>rfl
 |d+1,j,fr=>by
  have:=Td (ops:=ops) (es:=es) d (j+1) (fput fr (fG ops j) (es j).val)
  simp only[qa]at this⊢;rw[this,show j+1+d=j+(d+1) by omega]
theorem Sl{base:Nat}{es:Nat->ed}:∀(d j:Nat) (H:Hp),hI base es j H (d+1)=(es (j+d)).gV (base+(j+d)) (hI base es j H d)
 |0,j,H=>rfl
 |d+1,j,H=>by
  have:=Sl (base:=base) (es:=es) d (j+1) ((es j).gV (base+j) H)
  simp only[hI]at this⊢;rw[this,show j+1+d=j+(d+1) by omega]
theorem Ew{ops:Array Oper}{es:Nat->ed}(fr:Fr):∀k,qa ops es 0 fr k=dm ops es fr (fun _=>true) k
 |0=>rfl
 |k+1=>by rw[Td,Ew fr k];simp[dm]
theorem D5{base:Nat}{es:Nat->ed}(H:Hp):∀k,hI base es 0 H k=hS base es H (fun _=>true) k
 |0=>rfl
 |k+1=>by rw[Sl,D5 H k];simp[hS]
def CI(ops:Array Oper)(E:Nat->Bool):Prop:=∀j,E j=true->∀i∈rn (ops.getD j default),E i=true
theorem Sk{ops:Array Oper}:∀(l:List Oper) (iM:List (List Nat)),l=ops.toList.drop iM.length->(∀k i,i∈iM.getD k []->∀E,CI ops E->(∀e∈rn (ops.getD k default),E e=true)->E i=true)->
  ∀k i,i∈(yZ l iM).getD k []->∀E,CI ops E->(∀e∈rn (ops.getD k default),E e=true)->E i=true
 |[],iM,_,h=>h
 |o::l,iM,hl,h=>by
  simp only[yZ];have aC:iM.length<ops.size:=by
   have:=congrArg List.length hl;simp at this;omega
  have ho:o=ops.getD iM.length default:=by
   have:=congrArg (fun x=>x[0]?) hl
   simp[aC]at this;simpa [aC] using this
  refine Sk l _ ?_ ?_
  ·have:=congrArg List.tail hl
   simp only[List.tail_cons,List.tail_drop]at this;rw[this];simp
  ·intro k i hi E hE hk;by_cases dT:k<iM.length
   ·have e:(iM++[((rn o).flatMap fun i=>i::iM.getD i []).eraseDups]).getD k []=iM.getD k []:=by
     simp[List.getElem?_append_left dT]
    rw[e]at hi;exact h k i hi E hE hk
   ·by_cases Kc:k=iM.length
    ·subst Kc;have e:(iM++[((rn o).flatMap fun i=>i::iM.getD i []).eraseDups]).getD iM.length []=((rn o).flatMap fun i=>i::iM.getD i []).eraseDups:=by simp
     rw[e,List.mem_eraseDups,List.mem_flatMap]at hi;obtain⟨x,hx,Du⟩:=hi;rw[ho]at hx;have Xj:=hk x hx;rcases zzD.1 Du with rfl|Du
     ·exact Xj
     ·exact h x i Du E hE (hE x Xj)
    ·have e:(iM++[((rn o).flatMap fun i=>i::iM.getD i []).eraseDups]).getD k []=[]:=by
      rw[zB,zS (by simp;omega)];rfl
     rw[e]at hi;cases hi
theorem Lw{ops:Array Oper}{E:Nat->Bool}(hE:CI ops E){k i:Nat}(hi:((iU ops).getD k []).contains i=true)(hk:∀e∈rn (ops.getD k default),E e=true):E i=true:=
 Sk ops.toList [] (by simp) (fun k i h=>by simp at h) k i (List.contains_iff_mem.1 hi) E hE hk
structure KO(al ids:List Nat)(ops:Array Oper)(ex dl:List (List Nat)):Prop where
 sz:ops.size<=1000000
 slot:∀i j,i<ops.size->j<ops.size->i≠j->((iU ops).getD j []).contains i=true\/((iU ops).getD i []).contains j=true\/ ∀d,fG ops i=some d->(ex.getD j []).contains d=true
 new:∀i j,i<ops.size->j<ops.size->i<j->((iU ops).getD j []).contains i=true\/(dl.getD j []).contains i=true
 lo:∀i j,i<ops.size->j<ops.size->i≠j->ycm (ops.getD i default).op=false->loud (ops.getD i default).op=false->loud (ops.getD j default).op=true->((iU ops).getD j []).contains i=true\/(AW (ops.getD i default).op=true/\(dl.getD i []).contains i=true/\(ud ops i j=true\/ue ops al ids dl i j=true))
 lolo:∀i j,i<ops.size->j<ops.size->i≠j->loud (ops.getD i default).op=true->loud (ops.getD j default).op=true->((iU ops).getD j []).contains i=true\/((iU ops).getD i []).contains j=true\/(ydw (ops.getD i default).op=true/\ydw (ops.getD j default).op=true)\/w5 ops (ops.getD i default).op (ops.getD j default).op=true
 ins:∀i j,i<ops.size->j<ops.size->i≠j->ydw (ops.getD i default).op=true->loud (ops.getD j default).op=true->ydw (ops.getD j default).op=true
 same:∀i j,i<ops.size->j<ops.size->i≠j->∀d,fG ops i=some d->fG ops j=some d->((iU ops).getD j []).contains i=true\/((iU ops).getD i []).contains j=true
 lt:∀i j,i<ops.size->j<ops.size->((iU ops).getD j []).contains i=true->i<j
 elt:∀j,j<ops.size->∀e∈rn (ops.getD j default),e<j
theorem QV{al ids:List Nat}{ops:Array Oper}{ex dl:List (List Nat)}(h:sF al ids ops ex dl=true):KO al ids ops ex dl:=by
 unfold sF at h;rw[zV,decide_eq_true_eq]at h;obtain⟨fJ,h⟩:=h;have h0:∀i j,i<ops.size->j<ops.size->_:=fun i j hi hj=>zZ.1 (zZ.1 h j (by simpa using hj)) i (by simpa using hi);simp only[zV,Bool.or_eq_true,beq_iff_eq,Bool.not_eq_true',decide_eq_true_eq,decide_eq_false_iff_not,bne_iff_ne,sF.before0,zZ]at h0
 refine⟨fJ,fun i j hi hj aJ=>?_,fun i j hi hj aC=>?_,fun i j hi hj aJ h1 h2 h3=>?_,fun i j hi hj aJ h1 h2=>?_,fun i j hi hj aJ h1 h2=>?_,fun i j hi hj aJ d h1 h2=>?_,fun i j hi hj h1=>?_,fun j hj e he=>?_⟩
 ·have:=h0 i j hi hj
  rcases this.1.1 with g|g
  ·exact zzA g aJ
  ·rcases g.1.1.1.1.1 with (g1|g1)|g1
   ·exact .inl g1
   ·exact .inr (.inl g1)
   ·refine .inr (.inr fun d hd=>?_);unfold fG at hd;rw[hd]at g1;exact g1
 ·have:=h0 i j hi hj
  rcases this.1.1 with g|g
  ·omega
  ·rcases g.1.1.1.1.2 with (g1|g1)|g1
   ·exact .inl g1
   ·omega
   ·exact .inr g1
 ·have:=h0 i j hi hj
  rcases this.1.1 with g|g
  ·exact zzA g aJ
  ·rcases g.1.1.1.2 with (((g1|g1)|g1)|g1)|g1
   ·rw[h1]at g1;cases g1
   ·rw[h3]at g1;cases g1
   ·exact .inl g1
   ·rw[h2]at g1;cases g1
   ·exact .inr ⟨g1.1.1,g1.1.2,g1.2⟩
 ·have:=h0 i j hi hj
  rcases this.1.1 with g|g
  ·exact zzA g aJ
  ·rcases g.1.1.2 with ((((g1|g1)|g1)|g1)|g1)|g1
   ·rw[h1]at g1;cases g1
   ·rw[h2]at g1;cases g1
   ·exact .inl g1
   ·exact .inr (.inl g1)
   ·exact .inr (.inr (.inl g1))
   ·exact .inr (.inr (.inr g1))
 ·have:=h0 i j hi hj
  rcases this.1.1 with g|g
  ·exact zzA g aJ
  ·rcases g.1.2 with (g1|g1)|g1
   ·rw[h1]at g1;cases g1
   ·rw[h2]at g1;cases g1
   ·exact g1
 ·have:=h0 i j hi hj
  unfold fG at h1 h2;rcases this.1.1 with g|g
  ·exact zzA g aJ
  ·rcases g.2 with ((g1|g1)|g1)|g1
   ·exact .inl g1
   ·exact .inr g1
   ·rw[h1,h2]at g1;exact zzA rfl g1
   ·rw[h1]at g1;cases g1
 ·have:=h0 i j hi hj
  rcases this.1.2 with g|g
  ·rw[h1]at g;cases g
  ·exact g
 ·exact(h0 j j hj hj).2 e he
def fx(E:Nat->Bool):Nat->Nat
 |0=>0
 |k+1=>fx E k+if E k then 1 else 0
theorem R5(E:Nat->Bool):∀k,fx E k<=k
 |0=>zA _
 |k+1=>by have:=R5 E k;simp only[fx];split<;>omega
theorem Tn{E:Nat->Bool}:∀k,fx E k=k->∀i,i<k->E i=true
 |0,_,i,hi=>by omega
 |k+1,h,i,hi=>by
  have hk:=R5 E k;simp only[fx]at h;by_cases hE:E k=true
  ·rw[zM hE]at h;by_cases e:i=k
   ·rw[e];exact hE
   ·exact Tn k (by omega) i (by omega)
  ·rw[zL hE]at h;omega
theorem Tm{E E':Nat->Bool}{j:Nat}(h0:E j=false)(h1:E' j=true)(h:∀i,i≠j->E' i=E i):∀k,fx E' k=fx E k+if j<k then 1 else 0
 |0=>by simp[fx]
 |k+1=>by
  have ih:=Tm h0 h1 h k;simp only[fx,ih];by_cases e:k=j
  ·subst e;simp[h0,h1]
  ·rw[h k e];generalize (if E k=true then 1 else 0)=z;by_cases AA:j<k
   ·rw[zM AA,zM (show j<k+1 by omega)];omega
   ·rw[zL AA,zL (show¬j<k+1 by omega)];omega
theorem zr(n k:Nat):(Array.replicate n false).getD k false=false:=by by_cases hk:k<n<;>simp[hk]
section
variable{P:Program}{B:Nat}{w0:js}{Mx:Nat->Prop}{N:Nat}{ops:Array Oper}{base:Nat}{ex dl:List (List Nat)}{es:Nat->ed}{fr0:Fr}{H0:Hp}
theorem y57{E E':Nat->Bool}{j n:Nat}(hj:j<n)(h1:E' j=true)(h:∀i,i≠j->E' i=E i)(qP:∀i,j<i->i<n->E i=true->∀d,fG ops i=some d->fG ops j≠some d)(t:Nat):
  fget (dm ops es fr0 E' n) t=fget (fput (dm ops es fr0 E n) (fG ops j) (es j).val) t:=by
 by_cases hd:fG ops j=some t
 ·have e2:fget (fput (dm ops es fr0 E n) (fG ops j) (es j).val) t=(es j).val:=by rw[hd];simp[fput,fget]
  rw[e2]
  have:∀k,j<k->k<=n->fget (dm ops es fr0 E' k) t=(es j).val:=by
   intro k
   induction k with
   |zero=>intro h;omega
   |succ k ih=>
    intro hk Ph;simp only[dm];by_cases e:k=j
    ·subst e;rw[zM h1,hd];simp[fput,fget]
    ·have yt:=ih (by omega) (by omega)
     split
     ·rename_i hE
      rw[h k e]at hE;have aJ:=qP k (by omega) (by omega) hE;cases Az:fG ops k with
      |none=>exact yt
      |some d=>
       have:d≠t:=fun e'=>aJ d Az (by rw[hd,e'])
       simp only[fput,fget,this,if_false];exact yt
     ·exact yt
  exact this n hj (zA _)
 ·have e2:fget (fput (dm ops es fr0 E n) (fG ops j) (es j).val) t=fget (dm ops es fr0 E n) t:=by
   cases hk:fG ops j with
   |none=>rfl
   |some d=>simp only[fput,fget];rw[zL (fun e=>hd (by rw[hk,e]))]
  rw[e2];exact Jj n fun i _ hi=>h i (fun e=>hd (by rw[<-e];exact hi))
theorem R3{H:Hp}{t:Nat}{m k v:AV}{p:Prop}{id:Nat}{n x:Int}(h:inF P H t m k v=some (p,id,n,x))(hp:p):
  ∃kt et,tk P t= .map kt et/\tk P kt= .int .i64/\m= .mp id/\k= .int .i64 n/\v= .int .i64 x/\ ∃t' g,hget H id=some (.fmap t' (.ints g))/\g n=none:=by
 unfold inF at h
 split at h
 ·rename_i kt et fu
  unfold inK at h
  split at h
  ·rename_i dT
   unfold inO at h
   split at h
   ·rename_i t' g hg
    cases h;exact⟨kt,et,fu,dT,rfl,rfl,rfl,t',g,hg,hp⟩
   ·cases h
  ·cases h
 ·cases h
def V0:Option AObj->Option Nat
 |some (.fmap t (.ints _))=>some t
 |_=>none
def xq(H:Hp)(id:Nat):Option Nat:=V0 (hget H id)
def KM(n:Int):Option AObj->Option Int
 |some (.fmap _ (.ints g))=>g n
 |_=>none
def Cl(H:Hp)(id:Nat)(n:Int):Option Int:=KM n (hget H id)
theorem y2q{H:Hp}{id t:Nat}(h:xq H id=some t):∃g,hget H id=some (.fmap t (.ints g)):=by
 unfold xq V0 at h
 split at h
 ·rename_i t' g hg;cases h;exact⟨g,hg⟩
 ·cases h
theorem xS(H:Hp)(bO:Nat)(n' x':Int)(i:Nat):hget (insE H bO n' x') i=if i=bO then (match hget H i with|some (.fmap t (.ints g))=>some (.fmap t (.ints (updI g n' x')))|q=>q) else hget H i:=by
 unfold insE insO;by_cases e:i=bO
 ·subst e;rw[zM rfl]
  split
  ·rename_i t g hg;rw[uB hg,hg]
  ·rename_i cP
   split
   ·rename_i t g hg;exact zzA hg (cP t g)
   ·rfl
 ·rw[zL e]
  split
  ·rw[ka (Ne.symm e)]
  ·rfl
theorem LR(H:Hp)(bO:Nat)(n' x':Int)(id:Nat):xq (insE H bO n' x') id=xq H id:=by
 unfold xq;rw[xS]
 split
 ·split
  ·rename_i t g hg;rw[hg];rfl
  ·rfl
 ·rfl
theorem y2r{H:Hp}{id t:Nat}{g:Int->Option Int}{n x:Int}(h:hget H id=some (.fmap t (.ints g))):Cl (insE H id n x) id n=some x:=by
 unfold Cl;rw[xS,zM rfl,h];simp[KM,updI]
theorem y58{H:Hp}{id bO:Nat}{n n' x':Int}(h:(Cl H id n).isSome=true):(Cl (insE H bO n' x') id n).isSome=true:=by
 unfold Cl at h⊢;rw[xS]
 split
 ·split
  ·rename_i t g hg
   rw[hg]at h;simp only[KM,updI]at h⊢
   split
   ·rfl
   ·exact h
  ·exact h
 ·exact h
theorem XQ{H1 H2:Hp}{id bO:Nat}{n n' x x':Int}(h:∀i,hget H1 i=hget (insE H2 id n x) i)(hd:bO≠id\/n'≠n)(i:Nat):hget (insE H1 bO n' x') i=hget (insE (insE H2 bO n' x') id n x) i:=by
 rw[xS H1,xS (insE H2 bO n' x'),xS H2 bO n' x',h i,xS H2];by_cases e1:i=id
 ·by_cases e2:i=bO
  ·have hn:n'≠n:=by rcases hd with g|g<;>first|exact g|(exfalso;exact g (by omega))
   simp only[zM e1,zM e2];cases hq:hget H2 i with
   |none=>rfl
   |some ob=>
    cases ob with
    |fmap t c=>
     cases c with
     |ints g=>
      have:updI (updI g n x) n' x'=updI (updI g n' x') n x:=by
       funext q;simp only[updI];by_cases q1:q=n'
       ·have q2:q≠n:=fun e=>hn (q1.symm.trans e);rw[zM q1,zL q2,zM q1]
       ·rw[zL q1];by_cases q2:q=n
        ·rw[zM q2,zM q2]
        ·rw[zL q2,zL q2,zL q1]
      simp only[this]
     |bools g=>rfl
     |pairs g=>rfl
    |_=>rfl
  ·simp only[zM e1,zL e2]
 ·by_cases e2:i=bO
  ·simp only[zL e1,zM e2]
  ·simp only[zL e1,zL e2]
theorem uw(H:Hp)(id:Nat)(ob:AObj)(i:Nat):hget (hset H id ob) i=if id=i then (hget H i).map (fun _=>ob) else hget H i:=by
 by_cases e:id=i
 ·subst e;rw[zM rfl]
  induction H with
  |nil=>rfl
  |cons q r ih=>
   obtain⟨k,o⟩:=q;simp only[hset,hget];by_cases e:k=id
   ·simp[e,hget]
   ·simp only[e,if_false,hget];exact ih
 ·rw[zL e,ka e]
theorem MV(e:ed)(aP:Nat){H1 H2:Hp}{id:Nat}(h:hget H1 id=hget H2 id):hget (e.gV aP H1) id=hget (e.gV aP H2) id:=by
 cases e with
 |skip=>exact h
 |quiet r=>exact h
 |alloc r ob=>simp only[ed.gV,hget];rw[h]
 |store i ob=>simp only[ed.gV];rw[uw,uw,h]
 |app r g ob=>
  simp only[ed.gV,hget]
  split
  ·rfl
  ·cases g with
   |none=>exact h
   |some i=>simp only[hgo];rw[uw,uw,h]
 |ins i n x=>simp only[ed.gV];rw[xS,xS,h]
theorem y59{ops:Array Oper}{es:Nat->ed}{fr0:Fr}{d:Nat}(h:tG ops d=true){E:Nat->Bool}:∀k,k<=ops.size->fget (dm ops es fr0 E k) d=fget fr0 d:=by
 intro k
 induction k with
 |zero=>intro _;rfl
 |succ k ih=>
  intro hk;have dD:=ih (by omega);simp only[dm]
  split
  ·have aJ:fG ops k≠some d:=by
    unfold tG at h
    have:=zZ.1 h (ops.getD k default) (by
     have:ops.getD k default=ops[k]'(by omega):=by simp[show k<ops.size by omega]
     rw[this];simp)
    simpa [fG] using this
   cases hd:fG ops k with
   |none=>simp only[fput];exact dD
   |some q=>
    simp only[fput,fget];rw[zL (fun e=>aJ (by rw[hd,e]))];exact dD
  ·exact dD
theorem R2{ops:Array Oper}{es:Nat->ed}{fr0:Fr}{i t a id:Nat}{x y:Operand}{z:AV}{p:Prop}{ob:AObj}{H:Hp}{l:List Nat}{op:Op}(ho:op= .store t x y)(ha:kL op=some a)(hu:tG ops a=true)(bT:stF P H t (evA (cD l (dm ops es fr0 (fun _=>true) i)) x) z=some (p,id,ob))(hi:i<=ops.size:=by omega):∃off,fget fr0 a= .ptr id off:=by
 subst ho;cases x with
 |tmp d=>
  simp only[kL,Option.some.injEq]at ha;subst ha;simp only[evA]at bT
  split at bT
  ·rw[EL]at bT
   split at bT
   ·simp[stF]at bT
   ·rw[y59 hu i hi]at bT;unfold stF at bT
    split at bT
    ·rename_i bO off hq
     split at bT
     ·split at bT
      ·split at bT
       ·cases bT;exact⟨off,hq⟩
       ·cases bT
      ·cases bT
     ·cases bT
    ·cases bT
  ·simp[stF]at bT
 |_=>simp[kL]at ha
theorem XP{H1 H2:Hp}{t:Nat}{x y:AV}{p:Prop}{id:Nat}{ob:AObj}(h:stF P H2 t x y=some (p,id,ob))(e:hget H1 id=hget H2 id):stF P H1 t x y=stF P H2 t x y:=by
 unfold stF at h⊢;cases x with
 |ptr i off=>
  simp only at h⊢
  have:i=id:=by
   split at h
   ·split at h
    ·split at h
     ·cases h;rfl
     ·cases h
    ·cases h
   ·cases h
  subst this;rw[e]
 |_=>rfl
theorem R1{P:Program}{aP:Nat}{ev:Operand->AV}{op:Op}{r:AV}{ob:AObj}(h:AW op=true)(p:Prop):¬alF P aP ev op=some (p,r,ob):=by
 intro h1;unfold AW at h
 split at h
 ·cases h1
 ·cases h1
 ·cases h
theorem y6a{ops:Array Oper}{es:Nat->ed}{fr0:Fr}{a k:Nat}(hk:fG ops k=some a)(hu:∀q,q<ops.size->q≠k->fG ops q≠some a):∀i,k<i->i<=ops.size->fget (dm ops es fr0 (fun _=>true) i) a=(es k).val:=by
 intro i
 induction i with
 |zero=>intro h;omega
 |succ i ih=>
  intro WB his;simp only[dm,if_true];by_cases e:i=k
  ·subst e;rw[hk];simp[fput,fget]
  ·have yt:=ih (by omega) (by omega);have aJ:=hu i (by omega) e;cases hd:fG ops i with
   |none=>exact yt
   |some d=>
    simp only[fput,fget];rw[zL (fun e'=>aJ (by rw[hd,e']))];exact yt
theorem Z4{al ids:List Nat}(hc:KO al ids ops ex dl)(eR:∀j,j<ops.size->es j= .skip\/um P ops base ex dl j (ops.getD j default) (dm ops es fr0 (fun _=>true) j) (hS base es H0 (fun _=>true) j) (es j)){i j:Nat}(hi:i<ops.size)(hl:(es i).mq=true)(hf:ud ops j i=true):∃id ob,es i= .store id ob/\base+j<id:=by
 unfold ud at hf
 split at hf
 case h_2=>cases hf
 rename_i t a y ld
 obtain⟨k,p7,wh⟩:=List.any_eq_true.1 hf;simp only[zV,decide_eq_true_eq,beq_iff_eq,zZ,zK,Bool.or_eq_true,bne_iff_ne]at wh;obtain⟨⟨⟨⟨k1,k2⟩,k3⟩,k4⟩,k5⟩:=wh;have Pg:k<ops.size:=zK.1 p7;have WB:=hc.lt k i Pg hi k2;have jY:=y6a (es:=es) (fr0:=fr0) (a:=a) (k:=k) k3 (fun q hq aJ=>by
  rcases k5 q hq with g|g
  ·exact zzA g aJ
  ·exact g) i WB (by omega)
 have cm:=(eR i hi).resolve_left (by intro h;rw[h]at hl;cases hl);cases he:es i with
 |skip=>rw[he]at hl;cases hl
 |quiet r=>rw[he]at hl;cases hl
 |alloc r ob=>rw[he]at hl;cases hl
 |app r g ob=>
  rw[he]at cm;obtain⟨_,_,_,s,x,t',p,ho,_⟩:=cm;rw[ld]at ho;cases ho
 |ins id n x=>
  rw[he]at cm;obtain⟨_,_,_,t',m,k',v,p,ho,_⟩:=cm;rw[ld]at ho;cases ho
 |store id ob=>
  rw[he]at cm;obtain⟨_,_,_,t',x',y',p,ho,bT,_⟩:=cm;rw[ld]at ho;cases ho;refine⟨id,ob,rfl,?_⟩;have hv:(es k).val= .tup []\/(es k).val= .ptr (base+k) 0:=by
   have br:∃e,(ops.getD k default).op= .alloc e:=by
    unfold Sm at k4
    split at k4
    ·rename_i e ho;exact⟨e,ho⟩
    ·cases k4
   obtain⟨e,br⟩:=br;rcases eR k Pg with h|h
   ·left;rw[h];rfl
   ·cases hk:es k with
    |skip=>left;rfl
    |quiet r=>
     rw[hk]at h;obtain⟨_,_,h3⟩:=h;rcases h3 with ⟨h3,_⟩|⟨_,_,_,h3⟩
     ·rw[br]at h3;cases h3
     ·rcases h3 with ⟨p,h3,_⟩|⟨f,args,ts,g,cap,h3,_⟩
      ·rw[br]at h3;cases h3
      ·rw[br]at h3;cases h3
    |alloc r oh=>
     rw[hk]at h;obtain⟨_,_,_,h3⟩:=h;rcases h3 with ⟨p,h3,_⟩|⟨_,_,f,args,ts,g,cap,h3,_⟩
     ·rw[br]at h3;simp only[alF]at h3
      split at h3
      ·cases h3;right;rfl
      ·cases h3
     ·rw[br]at h3;cases h3
    |app r g oh=>
     rw[hk]at h;obtain⟨_,_,_,s,x,t',p,ho,_⟩:=h;rw[br]at ho;cases ho
    |ins bO n x=>
     rw[hk]at h;obtain⟨_,_,_,t',m,k',v,p,ho,_⟩:=h;rw[br]at ho;cases ho
    |store bO oh=>
     rw[hk]at h;obtain⟨_,_,_,t',x',y',p,ho,_⟩:=h;rw[br]at ho;cases ho
  generalize evA (cD (cQ ex i) (dm ops es fr0 (fun _=>true) i)) y=z at bT;simp only[evA]at bT
  split at bT
  ·rw[EL]at bT
   split at bT
   ·simp[stF]at bT
   ·rw[jY]at bT;rcases hv with hv|hv<;>rw[hv]at bT
    ·simp[stF]at bT
    ·simp only[stF]at bT
     split at bT
     ·split at bT
      ·split at bT
       ·cases bT;omega
       ·cases bT
      ·cases bT
     ·cases bT
  ·simp[stF]at bT
theorem y2s{ops:Array Oper}{es:Nat->ed}{fr0:Fr}{a:Nat}(hu:∀q,q<ops.size->fG ops q≠some a):∀i,i<=ops.size->fget (dm ops es fr0 (fun _=>true) i) a=fget fr0 a:=by
 intro i
 induction i with
 |zero=>intro _;rfl
 |succ i ih=>
  intro his;simp only[dm,if_true];have yt:=ih (by omega);have aJ:=hu i (by omega);cases hd:fG ops i with
  |none=>exact yt
  |some d=>
   simp only[fput,fget];rw[zL (fun e'=>aJ (by rw[hd,e']))];exact yt
theorem y6b{al ids:List Nat}(eR:∀j,j<ops.size->es j= .skip\/um P ops base ex dl j (ops.getD j default) (dm ops es fr0 (fun _=>true) j) (hS base es H0 (fun _=>true) j) (es j))(gI:∀a,al.contains a=true->∃id off,fget fr0 a= .ptr id off/\ids.contains id=true){i j:Nat}(hi:i<ops.size)(hl:(es i).mq=true)(hf:ue ops al ids dl j i=true):∃id ob,es i= .store id ob/\(df base dl j).contains id=true:=by
 unfold ue at hf;simp only[zV,decide_eq_true_eq]at hf;obtain⟨⟨_,hf⟩,hd⟩:=hf
 split at hf
 case h_2=>cases hf
 rename_i t a y ld
 simp only[zV,zZ,zK,bne_iff_ne]at hf;obtain⟨br,cP⟩:=hf;obtain⟨V5,off,e1,e2⟩:=gI a br;have jY:=y2s (es:=es) (fr0:=fr0) (a:=a) (fun q hq=>cP q hq) i (by omega);have hid:(df base dl j).contains V5=true:=by
  have:=zZ.1 hd V5 (List.contains_iff_mem.1 e2)
  rw[List.contains_iff_mem]at this⊢;exact zzE.2 ⟨_,this,Hv⟩
 have cm:=(eR i hi).resolve_left (by intro h;rw[h]at hl;cases hl);cases he:es i with
 |skip=>rw[he]at hl;cases hl
 |quiet r=>rw[he]at hl;cases hl
 |alloc r ob=>rw[he]at hl;cases hl
 |app r g ob=>
  rw[he]at cm;obtain⟨_,_,_,s,x,t',p,ho,_⟩:=cm;rw[ld]at ho;cases ho
 |ins id n x=>
  rw[he]at cm;obtain⟨_,_,_,t',m,k',v,p,ho,_⟩:=cm;rw[ld]at ho;cases ho
 |store id ob=>
  rw[he]at cm;obtain⟨_,_,_,t',x',y',p,ho,bT,_⟩:=cm;rw[ld]at ho;cases ho;refine⟨id,ob,rfl,?_⟩;generalize evA (cD (cQ ex i) (dm ops es fr0 (fun _=>true) i)) y=z at bT;simp only[evA]at bT
  split at bT
  ·rw[EL]at bT
   split at bT
   ·simp[stF]at bT
   ·rw[jY,e1]at bT;simp only[stF]at bT
    split at bT
    ·split at bT
     ·split at bT
      ·cases bT;exact hid
      ·cases bT
     ·cases bT
    ·cases bT
  ·simp[stF]at bT
theorem IH{E:Nat->Bool}(hb:∀i,base<=i->hget H0 i=none):∀k id,(∀i,i<k->E i=true->(es i).mq=true->∃bO ob,es i= .store bO ob/\bO≠id)->hget (hS base es H0 E k) id=
  (if base<=id/\id-base<k/\E (id-base)=true/\(kN (es (id-base))).isSome=true then kN (es (id-base)) else hget H0 id):=by
 intro k id h;have h0:∀q,q<=k->hget (hS base es H0 E q) id=hget (hS base es H0 (fun i=>E i&& !(es i).mq) q) id:=by
  intro q
  induction q with
  |zero=>intro _;rfl
  |succ q ih=>
   intro hq;have vH:=ih (by omega);simp only[hS];by_cases hE:E q=true
   ·rw[zM hE];by_cases hl:(es q).mq=true
    ·obtain⟨bO,ob,he,hle⟩:=h q (by omega) hE hl;rw[zL (by rw[hl];simp),he];simp only[ed.gV];rw[ka hle];exact vH
    ·rw[zM (by simp[hE,hl])];exact MV _ _ vH
   ·rw[zL hE,zL (by simp[hE])];exact vH
 rw[h0 k (zA _),Ig hb k (fun i hi hE=>by simpa using (Bool.and_eq_true_iff.1 hE).2)];by_cases c:base<=id/\id-base<k/\E (id-base)=true/\(kN (es (id-base))).isSome=true
 ·have hl:(es (id-base)).mq=false:=by
   have:=c.2.2.2
   cases hq:es (id-base)<;>rw[hq]at this<;>first|rfl|(simp[kN]at this)
  rw[zM c,zM ⟨c.1,c.2.1,by simp[c.2.2.1,hl],c.2.2.2⟩]
 ·rw[zL c,zL (fun c'=>c ⟨c'.1,c'.2.1,(Bool.and_eq_true_iff.1 c'.2.2.1).1,c'.2.2.2⟩)]
theorem XO{al ids:List Nat}(gI:∀a,al.contains a=true->∃id off,fget fr0 a= .ptr id off/\ids.contains id=true)(hc:KO al ids ops ex dl)(kX:∀i j a b,i<ops.size->j<ops.size->i≠j->((iU ops).getD j []).contains i=false->((iU ops).getD i []).contains j=false->kL (ops.getD i default).op=some a->kL (ops.getD j default).op=some b->tG ops a=true->tG ops b=true->a≠b->sep2 fr0 a b=true)(hb:∀i,base<=i->hget H0 i=none)(eR:∀j,j<ops.size->es j= .skip\/um P ops base ex dl j (ops.getD j default) (dm ops es fr0 (fun _=>true) j) (hS base es H0 (fun _=>true) j) (es j))
  {E:Nat->Bool} (hE:CI ops E) (hEn:∀i,E i=true->i<ops.size) {j:Nat} (hj:j<ops.size) (pf:dok (fG ops j) N=true) (je:um P ops base ex dl j (ops.getD j default) (dm ops es fr0 (fun _=>true) j) (hS base es H0 (fun _=>true) j) (es j)) (sC:E j=false) (hr:∀e∈rn (ops.getD j default),E e=true) {w:World} {ρ:Nat->Addr} {a:Act}
  (hs:aO B w0 Mx N w ρ (dm ops es fr0 E ops.size) (hS base es H0 E ops.size) a) {E':Nat->Bool} (h1:E' j=true) (h2:∀i,i≠j->E' i=E i) (Q:Exit->Act->World->Prop) (K:Act->World->Prop)
  (hK:∀a' w' ρ',aO B w0 Mx N w' ρ' (dm ops es fr0 E' ops.size) (hS base es H0 E' ops.size) a'->K a' w'):wpOp P ops Q j K a w:=by
 have hoj:ops[j]?=some (ops.getD j default):=by simp[hj]
 have iH:(ops.getD j default).dst=fG ops j:=rfl;generalize ky:ops.getD j default=o at*;have ll:∀i,((iU ops).getD j []).contains i=true->E i=true:=fun i hi=>Lw hE hi (by rw[ky];exact hr);have mN:∀i,((iU ops).getD i []).contains j=true->E i=false:=fun i hi=>by
  cases yS:E i with
  |false=>rfl
  |true=>have:=Lw hE hi (hE i yS);rw[sC]at this;cases this
 have qP:∀i,j<i->i<ops.size->E i=true->∀d,fG ops i=some d->fG ops j≠some d:=fun i hji kz yS d dW im=>by
  rcases hc.same i j kz hj (by omega) d dW im with g|g
  ·have:=hc.lt i j kz hj g;omega
  ·rw[mN i g]at yS;cases yS
 have jY:=y57 (es:=es) (fr0:=fr0) hj h1 h2 qP;have Ps:∀t,fget (cD (cQ ex j) (dm ops es fr0 (fun _=>true) j)) t= .any\/fget (cD (cQ ex j) (dm ops es fr0 (fun _=>true) j)) t=fget (dm ops es fr0 E ops.size) t:=fun t=>by
  rw[EL];by_cases hx:(cQ ex j).contains t=true
  ·rw[zM hx];exact .inl rfl
  ·rw[zL hx];right;rw[<-QX (ops:=ops) (es:=es) (fr0:=fr0) (j:=j) (E:=fun i=>decide (i<j)) (fun _=>rfl) ops.size (by omega)];refine Jj ops.size fun i hi hd=>?_;by_cases e:i=j
   ·subst e;simp[sC]
   ·rcases hc.slot i j hi hj e with g|g|g
    ·have:=hc.lt i j hi hj g;simp[this,ll i g]
    ·have:=hc.lt j i hj hi g;simp[show¬i<j by omega,mN i g]
    ·exact zzA (g t hd) hx
 have oj:=hs.Fm Ps;have qC:A3 ops o (cD (cQ ex j) (dm ops es fr0 (fun _=>true) j))->Region.wanted o (yielded ops a.tmps)=true:=fun hw=>by
  rcases hw with hg|⟨g,b,hg,hv⟩
  ·simp[Region.wanted,hg]
  ·simp[Region.wanted,hg,Jp oj hv]
 unfold wpOp;rw[hoj];simp only;have B6:∀i k,i<ops.size->k<ops.size->i≠k->loud (ops.getD k default).op=true->(∃r ob,es i= .alloc r ob)->((iU ops).getD k []).contains i=true:=fun i k hi hk aJ hlk ⟨r,ob,he⟩=>by
  have cm:=eR i hi;replace cm:=cm.resolve_left (by rw[he];intro h;cases h);rw[he]at cm;rcases hc.lo i k hi hk aJ cm.2.1 cm.2.2.1 hlk with g|⟨g1,g2,g3⟩
  ·exact g
  ·exfalso;rcases cm.2.2.2 with ⟨p,br,_⟩|⟨h4,_⟩
   ·exact zzA br (R1 g1 p)
   ·have:(df base dl i).contains (base+i)=true:=by
     rw[List.contains_iff_mem]at g2⊢;exact zzE.2 ⟨i,g2,KU (by have:=hc.sz;omega)⟩
    rw[this]at h4;cases h4
 have At:ycm o.op=false->loud o.op=false->(∀x,x<base+j+1->(AW o.op=true->(df base dl j).contains x=false)->∀i,i<ops.size->E i=true->(es i).mq=true->∃id ob,es i= .store id ob/\id≠x)/\ ∀i,i<j->(es i).mq=false:=fun jH hl=>by
  have key:∀i,i<ops.size->(es i).mq=true->(((iU ops).getD i []).contains j=true\/(AW o.op=true/\(ud ops j i=true\/ue ops al ids dl j i=true)/\j<i))/\i≠j:=fun i hi he=>by
   have cm:=eR i hi;have rz:loud (ops.getD i default).op=true:=by
    cases hk:es i with
    |store id ob=>replace cm:=cm.resolve_left (by rw[hk];intro h;cases h);rw[hk]at cm;exact cm.2.2.1
    |app r g ob=>replace cm:=cm.resolve_left (by rw[hk];intro h;cases h);rw[hk]at cm;exact cm.2.2.1
    |ins id n x=>replace cm:=cm.resolve_left (by rw[hk];intro h;cases h);rw[hk]at cm;exact cm.2.2.1
    |_=>rw[hk]at he;cases he
   have aJ:i≠j:=fun e=>by subst e;rw[ky,hl]at rz;cases rz
   refine⟨?_,aJ⟩;rcases hc.lo j i hj hi (Ne.symm aJ) (by rw[ky];exact jH) (by rw[ky];exact hl) rz with g|⟨g0,_,g⟩
   ·exact .inl g
   ·rw[ky]at g0;refine .inr ⟨g0,g,?_⟩;rcases g with g'|g'
    ·unfold ud at g'
     split at g'
     ·obtain⟨k,p7,wh⟩:=List.any_eq_true.1 g';simp only[zV,decide_eq_true_eq]at wh
      have:=hc.lt k i (zK.1 p7) hi wh.1.1.1.2
      omega
     ·cases g'
    ·unfold ue at g';simp only[zV,decide_eq_true_eq]at g';exact g'.1.1
  refine⟨fun x hx hxd i hi yS he=>?_,fun i lk=>?_⟩
  ·rcases (key i hi he).1 with g|⟨g0,g|g,_⟩
   ·have:=mN i g;rw[yS]at this;cases this
   ·obtain⟨id,ob,e1,e2⟩:=Z4 hc eR hi he g;exact⟨id,ob,e1,by omega⟩
   ·obtain⟨id,ob,e1,e2⟩:=y6b eR gI hi he g;refine⟨id,ob,e1,fun e=>?_⟩;subst e;rw[hxd g0]at e2;cases e2
  ·cases he:(es i).mq with
   |false=>rfl
   |true=>
    rcases (key i (by omega) he).1 with g|⟨_,_,g⟩
    ·have:=hc.lt j i hj (by omega) g;omega
    ·omega
 have Gs:loud o.op=true->ydw o.op=false->kL o.op=none->hS base es H0 E ops.size=hS base es H0 (fun _=>true) j/\hS base es H0 E' ops.size=(es j).gV (base+j) (hS base es H0 (fun _=>true) j):=fun hl DB Dz=>by
  have key:∀i,i<ops.size->i≠j->(∀H,(es i).gV (base+i) H=H)\/(E i=true/\i<j)\/(E i=false/\j<i):=fun i hi e=>by
   have cm:=eR i hi;cases hk:es i with
   |skip=>left;intro H;rfl
   |quiet r=>left;intro H;rfl
   |alloc r oh=>
    replace cm:=cm.resolve_left (by rw[hk];intro h;cases h);rw[hk]at cm
    have:=B6 i j hi hj e (by rw[ky];exact hl) ⟨_,_,hk⟩
    exact .inr (.inl ⟨ll i this,hc.lt i j hi hj this⟩)
   |store bO oh=>
    replace cm:=cm.resolve_left (by rw[hk];intro h;cases h);rw[hk]at cm;rcases hc.lolo i j hi hj e cm.2.2.1 (by rw[ky];exact hl) with g|g|g|g
    ·exact .inr (.inl ⟨ll i g,hc.lt i j hi hj g⟩)
    ·exact .inr (.inr ⟨mN i g,hc.lt j i hj hi g⟩)
    ·rw[ky,DB]at g;cases g.2
    ·unfold w5 at g;rw[ky,Dz]at g;unfold ze at g
     split at g
     ·rename_i h';cases h'
     ·cases g
   |app r g' oh=>
    replace cm:=cm.resolve_left (by rw[hk];intro h;cases h);rw[hk]at cm;rcases hc.lolo i j hi hj e cm.2.2.1 (by rw[ky];exact hl) with g|g|g|g
    ·exact .inr (.inl ⟨ll i g,hc.lt i j hi hj g⟩)
    ·exact .inr (.inr ⟨mN i g,hc.lt j i hj hi g⟩)
    ·rw[ky,DB]at g;cases g.2
    ·unfold w5 at g;rw[ky,Dz]at g;unfold ze at g
     split at g
     ·rename_i h';cases h'
     ·cases g
   |ins bO n' x'=>
    replace cm:=cm.resolve_left (by rw[hk];intro h;cases h);rw[hk]at cm;rcases hc.lolo i j hi hj e cm.2.2.1 (by rw[ky];exact hl) with g|g|g|g
    ·exact .inr (.inl ⟨ll i g,hc.lt i j hi hj g⟩)
    ·exact .inr (.inr ⟨mN i g,hc.lt j i hj hi g⟩)
    ·rw[ky,DB]at g;cases g.2
    ·unfold w5 at g;rw[ky,Dz]at g;unfold ze at g
     split at g
     ·rename_i h';cases h'
     ·cases g
  refine⟨?_,?_⟩
  ·rw[<-KT (base:=base) (es:=es) (H0:=H0) (j:=j) (E:=fun i=>decide (i<j)) (fun _=>rfl) ops.size (by omega)];refine CU ops.size fun i hi=>?_;by_cases e:i=j
   ·subst e;right;simp[sC]
   ·rcases key i hi e with g|⟨g1,g2⟩|⟨g1,g2⟩
    ·exact .inl g
    ·right;simp[g1,g2]
    ·right;simp[g1,show¬i<j by omega]
  ·have e1:hS base es H0 (fun _=>true) (j+1)=(es j).gV (base+j) (hS base es H0 (fun _=>true) j):=by simp[hS]
   rw[<-e1,<-KT (base:=base) (es:=es) (H0:=H0) (j:=j+1) (E:=fun i=>decide (i<j+1)) (fun _=>rfl) ops.size (by omega)];refine CU ops.size fun i hi=>?_;by_cases e:i=j
   ·subst e;right;simp[h1]
   ·rw[h2 i e];rcases key i hi e with g|⟨g1,g2⟩|⟨g1,g2⟩
    ·exact .inl g
    ·right;simp[g1,show i<j+1 by omega]
    ·right;simp[g1,show¬i<j+1 by omega]
 cases gY:es j with
 |skip=>
  rw[gY]at je;obtain⟨g,b,hg,hv⟩:=je;have hw:¬Region.wanted o (yielded ops a.tmps)=true:=by
   rcases hv with hv|hv
   ·have hy:=Jp oj hv;simp[Region.wanted,hg,hy]
   ·have hy:=Nh oj hv;simp[Region.wanted,hg,hy]
  rw[zL hw];refine hK _ _ ρ ((hs.put (d:=o.dst) (by rw[iH];exact pf) (.tup [] [] rfl (fun i v x h=>by simp at h))).congr (fun t=>by rw[jY t,iH,gY];rfl) (fun i=>?_));rw[CU (E:=E') (E':=E) ops.size fun i _=>by
   by_cases e:i=j
   ·left;subst e;intro H;rw[gY];rfl
   ·right;exact h2 i e]
 |quiet r=>
  rw[gY]at je;obtain⟨hw,qU,hq⟩:=je;have yK:∀s d x,o.op= .convert s d x->∃e,P.underlying s=some e:=fun s d x ho=>by
   rw[ho]at qU;simp only[cvOk]at qU;cases hu:P.underlying s with
   |some e=>exact⟨e,rfl⟩
   |none=>simp[tk,hu]at qU
  have hHE:hS base es H0 E' ops.size=hS base es H0 E ops.size:=CU ops.size fun i _=>by
   by_cases e:i=j
   ·left;subst e;intro H;rw[gY];rfl
   ·right;exact h2 i e
  have jL:∀(w':World) (v:Value),aO B w0 Mx N w' ρ (dm ops es fr0 E ops.size) (hS base es H0 E ops.size) a->VR w' (MM Mx (hS base es H0 E ops.size) ρ) ρ (DD (hS base es H0 E ops.size)) v r->K (a.put o.dst v) w':=fun w' v a7 hv=>
   hK _ _ ρ ((a7.put (d:=o.dst) (by rw[iH];exact pf) hv).congr (fun t=>by rw[jY t,iH,gY];rfl) (fun i=>by rw[hHE]))
  rw[zM (qC hw)];left;rcases hq with ⟨jH,p,sY,hp⟩|⟨jH,hl,OK,hq⟩
  ·rw[Yq (H':=hS base es H0 E ops.size) jH]at sY;obtain⟨v,aU,hv⟩:=C9 (P:=P) oj.objs oj.ev yK sY hp;unfold Oper.wp;rw[aU];exact jL w v hs hv
  ·obtain⟨Fy,Oe⟩:=At jH hl;have cF:∀i ob,hget (yai (df base dl j) (hS base es H0 (fun _=>true) j)) i=some ob->hget (hS base es H0 E ops.size) i=some ob:=fun i ob hi=>by
    rw[Ug]at hi
    split at hi
    ·cases hi
    ·rename_i hnd
     rw[Ig hb j (fun i hi _=>Oe i hi)]at hi;have iN:i<base+j+1:=by
      split at hi
      ·rename_i hcnd;have:=hcnd.2.1;omega
      ·by_cases hib:base<=i
       ·rw[hb i hib]at hi;cases hi
       ·omega
     rw[IH hb ops.size i (Fy i iN fun _=>by simpa using hnd)]
     split at hi
     ·rename_i hcnd
      have kz:E (i-base)=true:=by
       rcases hc.new (i-base) j (by omega) hj hcnd.2.1 with g|g
       ·exact ll _ g
       ·exfalso;apply hnd;rw[List.contains_iff_mem];exact zzE.2 ⟨i-base,List.contains_iff_mem.1 g,by rw[KU (by have:=hc.sz;omega)];omega⟩
      rw[zM ⟨hcnd.1,by omega,kz,hcnd.2.2.2⟩];exact hi
     ·rename_i hcnd
      by_cases hib:base<=i
      ·rw[hb i hib]at hi;cases hi
      ·rw[zL (fun h=>hib h.1)];exact hi
   obtain⟨My,Kp,yx⟩:=hs.sub cF (fun i ob hi=>zZ.1 OK _ (ME hi)) (fr':=nC (yai (df base dl j) (hS base es H0 (fun _=>true) j)) (cD (cQ ex j) (dm ops es fr0 (fun _=>true) j))) (fun t=>by
    rcases Te (yai (df base dl j) (hS base es H0 (fun _=>true) j)) (cD (cQ ex j) (dm ops es fr0 (fun _=>true) j)) t with g|⟨g1,g2⟩
    ·exact .inl g
    ·rcases Ps t with g3|g3
     ·left;rw[g1,g3]
     ·exact .inr ⟨by rw[g1,g3],g2⟩)
   have uS:∀i,DD (yai (df base dl j) (hS base es H0 (fun _=>true) j)) i->DD (hS base es H0 E ops.size) i:=fun i ⟨q,hq⟩=>⟨q,cF i q hq⟩
   have kT:∀{w':World} {v:Value},VR w' (MM My (yai (df base dl j) (hS base es H0 (fun _=>true) j)) ρ) ρ (DD (yai (df base dl j) (hS base es H0 (fun _=>true) j))) v r->VR w' (MM Mx (hS base es H0 E ops.size) ρ) ρ (DD (hS base es H0 E ops.size)) v r:=fun hv=>by
    rw[Kp]at hv;exact hv.carry (zA _) (fun b _ hm=>⟨rfl,hm⟩) (fun k hd=>⟨uS k hd,rfl,fun arr t ha=>⟨arr,ha,rfl⟩⟩)
   rcases hq with ⟨p,sY,hp⟩|⟨f,args,ts,g,cap,ho,hf,mQ⟩
   ·obtain⟨v,aU,hv⟩:=C9 (P:=P) yx.objs yx.ev yK sY hp;unfold Oper.wp;rw[aU];exact jL w v hs (kT hv)
   ·obtain⟨vs,ef,xw,hx⟩:=(hf▸yx.ev f).e7;obtain⟨dt,eW⟩:=Ut (P:=P) yx mQ (vs:=args.toList.map a.eval++vs) (by simp[xw]) (fun i v x g1 g2=>by
     by_cases hi:i<args.toList.length
     ·rw[List.getElem?_append_left (by simpa using hi),zR]at g1 g2;rw[zJ hi]at g1 g2;cases g1;cases g2;exact yx.ev _
     ·rw[List.getElem?_append_right (by simpa using hi)]at g1 g2;simp only[List.length_map]at g1 g2;exact hx _ v x g1 g2)
    have e1:(args.map a.eval++vs.toArray)=(args.toList.map a.eval++vs).toArray:=by obtain⟨l⟩:=args;simp
    have aU:(execOp a.eval o).run P w= .ok (.enter g (args.toList.map a.eval++vs).toArray) w:=by
     simp only[execOp,ho,resolve,ef];have h3:(#[]++Array.map a.eval args++vs.toArray)=(args.toList.map a.eval++vs).toArray:=by rw[Array.empty_append];exact e1
     simp only[Deferred.ofValue,invoke,Sem.run_bind,Sem.run_pure,Result.andThen_ok,h3];exact Nr dt _
    unfold Oper.wp;rw[aU];refine eW.mono ?_;rintro e w' ⟨v,r',rfl,rfl,_,hv,hbl⟩;exact jL w' v (hs.later hbl) (kT hv)
 |alloc r ob=>
  rw[gY]at je;obtain⟨hw,jH,hl,uJ⟩:=je;obtain⟨Fy,Oe⟩:=At jH hl;have WO:AW o.op=true->(df base dl j).contains (base+j)=false:=fun hf=>by
   rcases uJ with ⟨p,br,_⟩|⟨h4,_⟩
   ·exact zzA br (R1 hf p)
   ·simpa using h4
  have mH:hget (hS base es H0 E ops.size) (base+j)=none:=by
   rw[IH hb ops.size _ (Fy _ (by omega) WO),zL (fun h=>by rw[Nat.add_sub_cancel_left,sC]at h;cases h.2.2.1)];exact hb _ (by omega)
  have jL:∀(w':World) (v:Value) (ρ2:Nat->Addr),aO B w0 Mx N w' ρ2 (dm ops es fr0 E ops.size) ((base+j,ob)::hS base es H0 E ops.size) a->VR w' (MM Mx ((base+j,ob)::hS base es H0 E ops.size) ρ2) ρ2 (DD ((base+j,ob)::hS base es H0 E ops.size)) v r->K (a.put o.dst v) w':=fun w' v ρ2 jI hv=>by
   refine hK _ _ _ ((jI.put (d:=o.dst) (by rw[iH];exact pf) hv).congr (fun t=>by rw[jY t,iH,gY];rfl) (fun i=>?_));by_cases e:base+j=i
   ·subst e;simp only[hget,if_true];rw[IH hb ops.size _ (fun i hi yS he=>by
     by_cases e:i=j
     ·subst e;rw[gY]at he;cases he
     ·rw[h2 i e]at yS;exact Fy _ (by omega) WO i hi yS he)]
    rw[zM ⟨by omega,by omega,by rw[Nat.add_sub_cancel_left];exact h1,by rw[Nat.add_sub_cancel_left,gY];rfl⟩,Nat.add_sub_cancel_left,gY];rfl
   ·simp only[hget];rw[zL e];have gen:∀q,q<=ops.size->hget (hS base es H0 E' q) i=hget (hS base es H0 E q) i:=by
     intro q
     induction q with
     |zero=>intro _;rfl
     |succ q ih=>
      intro hq;have vH:=ih (by omega);simp only[hS];by_cases eq:q=j
      ·subst eq;rw[zM h1,zL (by rw[sC];decide),gY];simp only[ed.gV,hget];rw[zL e];exact vH
      ·rw[h2 q eq]
       split
       ·exact MV _ _ vH
       ·exact vH
    exact gen ops.size (zA _)
  rw[zM (qC hw)];left;rcases uJ with ⟨p,br,hp⟩|⟨_,OK,f,args,ts,g,cap,ho,hf,mQ⟩
  ·obtain⟨v,w',aU,a7,hv,rE,B0⟩:=TN (P:=P) oj mH br hp;unfold Oper.wp;rw[aU];exact jL _ _ _ (a7.Bl (fr':=dm ops es fr0 E ops.size) (fun t=>by subst B0;exact VR.laid hs mH (hs.frv t))) hv
  ·skip
   have cF:∀i ob,hget (yai (df base dl j) (hS base es H0 (fun _=>true) j)) i=some ob->hget (hS base es H0 E ops.size) i=some ob:=fun i ob hi=>by
    rw[Ug]at hi
    split at hi
    ·cases hi
    ·rename_i hnd
     rw[Ig hb j (fun i hi _=>Oe i hi)]at hi;have iN:i<base+j+1:=by
      split at hi
      ·rename_i hcnd;have:=hcnd.2.1;omega
      ·by_cases hib:base<=i
       ·rw[hb i hib]at hi;cases hi
       ·omega
     rw[IH hb ops.size i (Fy i iN fun _=>by simpa using hnd)]
     split at hi
     ·rename_i hcnd
      have kz:E (i-base)=true:=by
       rcases hc.new (i-base) j (by omega) hj hcnd.2.1 with g|g
       ·exact ll _ g
       ·exfalso;apply hnd;rw[List.contains_iff_mem];exact zzE.2 ⟨i-base,List.contains_iff_mem.1 g,by rw[KU (by have:=hc.sz;omega)];omega⟩
      rw[zM ⟨hcnd.1,by omega,kz,hcnd.2.2.2⟩];exact hi
     ·rename_i hcnd
      by_cases hib:base<=i
      ·rw[hb i hib]at hi;cases hi
      ·rw[zL (fun h=>hib h.1)];exact hi
   obtain⟨My,Kp,yx⟩:=hs.sub cF (fun i ob hi=>zZ.1 OK _ (ME hi)) (fr':=nC (yai (df base dl j) (hS base es H0 (fun _=>true) j)) (cD (cQ ex j) (dm ops es fr0 (fun _=>true) j))) (fun t=>by
    rcases Te (yai (df base dl j) (hS base es H0 (fun _=>true) j)) (cD (cQ ex j) (dm ops es fr0 (fun _=>true) j)) t with g|⟨g1,g2⟩
    ·exact .inl g
    ·rcases Ps t with g3|g3
     ·left;rw[g1,g3]
     ·exact .inr ⟨by rw[g1,g3],g2⟩)
   have uS:∀i,DD (yai (df base dl j) (hS base es H0 (fun _=>true) j)) i->DD (hS base es H0 E ops.size) i:=fun i ⟨q,hq⟩=>⟨q,cF i q hq⟩;obtain⟨vs,ef,xw,hx⟩:=(hf▸yx.ev f).e7;obtain⟨dt,eW⟩:=YJ (P:=P) yx mQ (vs:=args.toList.map a.eval++vs) (by simp[xw]) (fun i v x g1 g2=>by
    by_cases hi:i<args.toList.length
    ·rw[List.getElem?_append_left (by simpa using hi),zR]at g1 g2;rw[zJ hi]at g1 g2;cases g1;cases g2;exact yx.ev _
    ·rw[List.getElem?_append_right (by simpa using hi)]at g1 g2;simp only[List.length_map]at g1 g2;exact hx _ v x g1 g2)
   have e1:(args.map a.eval++vs.toArray)=(args.toList.map a.eval++vs).toArray:=by obtain⟨l⟩:=args;simp
   have aU:(execOp a.eval o).run P w= .ok (.enter g (args.toList.map a.eval++vs).toArray) w:=by
    simp only[execOp,ho,resolve,ef];have h3:(#[]++Array.map a.eval args++vs.toArray)=(args.toList.map a.eval++vs).toArray:=by rw[Array.empty_append];exact e1
    simp only[Deferred.ofValue,invoke,Sem.run_bind,Sem.run_pure,Result.andThen_ok,h3];exact Nr dt _
   unfold Oper.wp;rw[aU];refine eW.mono ?_;rintro e w' ⟨v,eJ,n,t,l,ρ',M0,rfl,PO,⟨rfl,rfl⟩,hk,hv⟩;obtain⟨j1,j2⟩:=hs.FR mH PO rfl hk;exact jL _ _ _ j1 (j2 _ _ _ hv)
 |store id ob=>
  rw[gY]at je;obtain⟨hw,jH,hl,t,x,y,p,ho,bT,hp⟩:=je;have DB:ydw o.op=false:=by rw[ho];rfl
  have kinds:∀i,i<ops.size->i≠j->(∀H,(es i).gV (base+i) H=H)\/(E i=true/\i<j)\/(E i=false/\j<i)\/ ∃bO oh,es i= .store bO oh/\bO≠id:=fun i hi e=>by
   have cm:=eR i hi;have sr:loud (ops.getD i default).op=true->(E i=true/\i<j)\/(E i=false/\j<i)\/(((iU ops).getD j []).contains i=false/\((iU ops).getD i []).contains j=false/\w5 ops (ops.getD i default).op o.op=true):=fun rz=>by
    cases g1:((iU ops).getD j []).contains i with
    |true=>exact .inl ⟨ll i g1,hc.lt i j hi hj g1⟩
    |false=>
     cases g2:((iU ops).getD i []).contains j with
     |true=>exact .inr (.inl ⟨mN i g2,hc.lt j i hj hi g2⟩)
     |false=>
      rcases hc.lolo i j hi hj e rz (by rw[ky];exact hl) with g|g|g|g
      ·rw[g1]at g;cases g
      ·rw[g2]at g;cases g
      ·rw[ky,DB]at g;cases g.2
      ·rw[ky]at g;exact .inr (.inr ⟨rfl,rfl,g⟩)
   cases hk:es i with
   |skip=>left;intro H;rfl
   |quiet r=>left;intro H;rfl
   |alloc r oh=>
    replace cm:=cm.resolve_left (by rw[hk];intro h;cases h);rw[hk]at cm
    have:=B6 i j hi hj e (by rw[ky];exact hl) ⟨_,_,hk⟩
    exact .inr (.inl ⟨ll i this,hc.lt i j hi hj this⟩)
   |ins bO n' x'=>
    replace cm:=cm.resolve_left (by rw[hk];intro h;cases h);rw[hk]at cm;obtain⟨_,_,h3,t1,m1,k1,v1,p1,nt,_⟩:=cm
    have:=hc.ins i j hi hj e (by rw[nt];rfl) (by rw[ky];exact hl)
    rw[ky,DB]at this;cases this
   |app r g' oh=>
    replace cm:=cm.resolve_left (by rw[hk];intro h;cases h);rw[hk]at cm;obtain⟨_,_,h3,s1,x1,t1,p1,nt,_⟩:=cm;rcases sr h3 with g|g|⟨_,_,g⟩
    ·exact .inr (.inl g)
    ·exact .inr (.inr (.inl g))
    ·rw[nt]at g;cases g
   |store bO oh=>
    replace cm:=cm.resolve_left (by rw[hk];intro h;cases h);rw[hk]at cm;obtain⟨_,_,h3,t1,x1,y1,p1,nt,BA,dM⟩:=cm;rcases sr h3 with g|g|⟨u1,u2,g⟩
    ·exact .inr (.inl g)
    ·exact .inr (.inr (.inl g))
    ·refine .inr (.inr (.inr ⟨bO,oh,rfl,?_⟩));unfold w5 at g;have gg:∀a b,kL (ops.getD i default).op=some a->kL o.op=some b->ze ops (some a) (some b)=true:=fun a b h1 h2=>by rw[<-h1,<-h2];exact g
     cases ha:kL (ops.getD i default).op with
     |none=>rw[ha]at g;cases g
     |some a=>
      cases s9:kL o.op with
      |none=>rw[ha,s9]at g;cases g
      |some b=>
       have g2:=gg a b ha s9;simp only[ze,zV,bne_iff_ne]at g2;have jI:=kX i j a b hi hj e u1 u2 ha (by rw[ky];exact s9) g2.1.2 g2.2 g2.1.1;obtain⟨off1,e1⟩:=R2 (ops:=ops) (es:=es) (fr0:=fr0) nt ha g2.1.2 BA;obtain⟨off2,e2⟩:=R2 (ops:=ops) (es:=es) (fr0:=fr0) ho s9 g2.2 bT;unfold sep2 at jI;rw[e1,e2]at jI
       simp only[sepV,Bool.or_eq_true,beq_iff_eq,bne_iff_ne]at jI;rcases jI with h|h
       ·exact zzA h g2.1.1
       ·exact h
  have L1:∀k,k<=ops.size->hget (hS base es H0 E k) id=hget (hS base es H0 (fun _=>true) (min k j)) id:=by
   intro k
   induction k with
   |zero=>intro _;simp[hS]
   |succ k ih=>
    intro hk;have dD:=ih (by omega);by_cases e:k=j
    ·subst e;simp only[hS,sC,if_false,Bool.false_eq_true];rw[dD,Nat.min_self,show min (k+1) k=k by omega]
    ·by_cases Pj:k<j
     ·rw[show min (k+1) j=k+1 by omega];rw[show min k j=k by omega]at dD;simp only[hS,if_true];rcases kinds k (by omega) e with g1|⟨g1,_⟩|⟨_,g2⟩|⟨bO,oh,g1,g2⟩
      ·rw[g1,g1];split<;>exact dD
      ·rw[zM g1];exact MV _ _ dD
      ·omega
      ·rw[g1];simp only[ed.gV];rw[ka g2]
       split
       ·rw[ka g2];exact dD
       ·exact dD
     ·rw[show min (k+1) j=j by omega];rw[show min k j=j by omega]at dD;simp only[hS]
      split
      ·rename_i GY
       rcases kinds k (by omega) e with g1|⟨_,g2⟩|⟨g1,_⟩|⟨bO,oh,g1,g2⟩
       ·rw[g1];exact dD
       ·omega
       ·rw[g1]at GY;cases GY
       ·rw[g1];simp only[ed.gV];rw[ka g2];exact dD
      ·exact dD
  have hid:=L1 ops.size (zA _);rw[show min ops.size j=j by omega]at hid;rw[<-XP bT hid]at bT;have L2:∀k,j<k->k<=ops.size->∀i,hget (hS base es H0 E' k) i=hget (hset (hS base es H0 E k) id ob) i:=by
   intro k
   induction k with
   |zero=>intro h;omega
   |succ k ih=>
    intro AA hk i;by_cases e:k=j
    ·subst e;have sA:hS base es H0 E' k=hS base es H0 E k:=by
      have gen:∀q,q<=k->hS base es H0 E' q=hS base es H0 E q:=by
       intro q
       induction q with
       |zero=>intro _;rfl
       |succ q vH=>intro hq;simp only[hS];rw[vH (by omega),h2 q (by omega)]
      exact gen k (zA _)
     simp only[hS,h1,if_true,sC,Bool.false_eq_true,if_false,gY,ed.gV];rw[sA]
    ·have dD:=ih (by omega) (by omega);simp only[hS,h2 k e]
     split
     ·rename_i GY
      rcases kinds k (by omega) e with g1|⟨_,g2⟩|⟨g1,_⟩|⟨bO,oh,g1,g2⟩
      ·rw[g1,g1];exact dD i
      ·omega
      ·rw[g1]at GY;cases GY
      ·rw[g1];simp only[ed.gV];rw[uw,uw,uw,dD i,uw];by_cases e1:bO=i
       ·rw[zM e1,zL (fun h=>g2 (e1.trans h.symm)),zL (fun h=>g2 (e1.trans h.symm)),zM e1]
       ·rw[zL e1,zL e1]
     ·exact dD i
  obtain⟨w',aU,a7⟩:=TQ (P:=P) hs (oj.ev x) (oj.ev y) bT hp;rw[zM (qC hw)];left;have qI:(execOp a.eval o).run P w= .ok .skip w':=by simp only[execOp,ho];simp[aU]
  unfold Oper.wp;rw[qI];refine hK _ _ _ ((a7.put (d:=o.dst) (by rw[iH];exact pf) (.any _)).congr (fun t=>by rw[jY t,iH,gY];rfl) (fun i=>?_));rw[L2 ops.size hj (zA _) i]
 |app r g ob=>
  rw[gY]at je;obtain⟨hw,jH,hl,sx,x,t,p,ho,bT,hp⟩:=je;obtain⟨PR,PQ⟩:=Gs hl (by rw[ho];rfl) (by rw[ho];rfl);rw[<-PR]at bT;have mH:hget (hS base es H0 E ops.size) (base+j)=none:=by
   rw[PR];have gen:∀k,k<=j->∀i,base+k<=i->hget (hS base es H0 (fun _=>true) k) i=none:=by
    intro k
    induction k with
    |zero=>intro _ i hi;exact hb i (by omega)
    |succ k ih=>
     intro hk i hi;have dD:=ih (by omega) i (by omega);simp only[hS,if_true];cases GD:es k with
     |skip=>exact dD
     |quiet r=>exact dD
     |alloc r ob=>simp only[ed.gV,hget];rw[zL (by omega)];exact dD
     |store id ob=>
      simp only[ed.gV];by_cases e:id=i
      ·subst e;have DA:∀(H:Hp),hget H id=none->hget (hset H id ob) id=none:=fun H hH=>by
        induction H with
        |nil=>rfl
        |cons q r ihr=>
         obtain⟨m,oo⟩:=q;simp only[hget]at hH
         split at hH
         ·cases hH
         ·rename_i hm;simp only[hset,hm,if_false,hget];exact ihr hH
       exact DA _ dD
      ·rw[ka e];exact dD
     |ins id n x=>
      have:=hc.ins k j (by omega) hj (by omega) (by
       have GC:=(eR k (by omega)).resolve_left (by rw[GD];intro h;cases h);rw[GD]at GC;obtain⟨_,_,_,t',m',k',v',p',As,_⟩:=GC;rw[As];rfl) (by rw[ky];exact hl)
      rw[ky,ho]at this;cases this
     |app r g ob=>
      simp only[ed.gV,hget];rw[zL (by omega)];cases g with
      |none=>exact dD
      |some id=>
       simp only[hgo];by_cases e:id=i
       ·subst e;have DA:∀(H:Hp),hget H id=none->hget (hset H id .gone) id=none:=fun H hH=>by
         induction H with
         |nil=>rfl
         |cons q r ihr=>
          obtain⟨m,oo⟩:=q;simp only[hget]at hH
          split at hH
          ·cases hH
          ·rename_i hm;simp only[hset,hm,if_false,hget];exact ihr hH
        exact DA _ dD
       ·rw[ka e];exact dD
   exact gen j (zA _) _ (zA _)
  obtain⟨z,w',ρ',aU,a7,hv⟩:=XR (P:=P) (ty:=o.type) hs mH (oj.ev sx) (oj.ev x) bT hp;rw[zM (qC hw)];left;have qI:(execOp a.eval o).run P w= .ok (.value z) w':=by simp[execOp,ho,resolve,invoke,builtin,aU]
  unfold Oper.wp;rw[qI];refine hK _ _ _ ((a7.put (d:=o.dst) (by rw[iH];exact pf) hv).congr (fun t=>by rw[jY t,iH,gY];rfl) (fun i=>?_));rw[PQ,gY,PR];rfl
 |ins id n x=>
  rw[gY]at je;obtain⟨hw,jH,hl,t,mo,ko,vo,p,ho,bT,hp⟩:=je;obtain⟨kt,et,fu,dT,em,ek,ev,t',g,hg,BR⟩:=R3 bT hp;have lk:ydw (ops.getD j default).op=true:=by rw[ky,ho];rfl
  have kinds:∀i,i<ops.size->i≠j->(∀H,(es i).gV (base+i) H=H)\/(i<j/\E i=true/\ ∃r ob,es i= .alloc r ob)\/ ∃bO n' x',es i= .ins bO n' x':=fun i hi e=>by
   have cm:=eR i hi;cases hk:es i with
   |skip=>left;intro H;rfl
   |quiet r=>left;intro H;rfl
   |alloc r oh=>
    replace cm:=cm.resolve_left (by rw[hk];intro h;cases h);rw[hk]at cm
    have:=B6 i j hi hj e (by rw[ky];exact hl) ⟨_,_,hk⟩
    exact .inr (.inl ⟨hc.lt i j hi hj this,ll i this,r,oh,rfl⟩)
   |store bO oh=>
    replace cm:=cm.resolve_left (by rw[hk];intro h;cases h);rw[hk]at cm;obtain⟨_,_,h3,t1,x1,y1,p1,nt,_⟩:=cm
    have:=hc.ins j i hj hi (Ne.symm e) lk h3
    rw[nt]at this;cases this
   |app r g' oh=>
    replace cm:=cm.resolve_left (by rw[hk];intro h;cases h);rw[hk]at cm;obtain⟨_,_,h3,t1,x1,y1,p1,nt,_⟩:=cm
    have:=hc.ins j i hj hi (Ne.symm e) lk h3
    rw[nt]at this;cases this
   |ins bO n' x'=>exact .inr (.inr ⟨bO,n',x',rfl⟩)
  have L1:∀k,k<=ops.size->xq (hS base es H0 E k) id=xq (hS base es H0 (fun _=>true) (min k j)) id:=by
   intro k
   induction k with
   |zero=>intro _;simp[hS]
   |succ k ih=>
    intro hk;have dD:=ih (by omega);by_cases e:k=j
    ·subst e;simp only[hS,sC,if_false,Bool.false_eq_true];rw[dD,Nat.min_self,show min (k+1) k=k by omega]
    ·by_cases Pj:k<j
     ·rw[show min (k+1) j=k+1 by omega];rw[show min k j=k by omega]at dD;simp only[hS,if_true];rcases kinds k (by omega) e with g1|⟨_,g2,r,ob,g3⟩|⟨bO,n',x',g1⟩
      ·rw[g1,g1];split<;>exact dD
      ·rw[zM g2,g3];simp only[ed.gV,xq,hget]
       split
       ·rfl
       ·exact dD
      ·rw[g1];simp only[ed.gV,LR]
       split
       ·rw[LR];exact dD
       ·exact dD
     ·rw[show min (k+1) j=j by omega];rw[show min k j=j by omega]at dD;simp only[hS]
      split
      ·rcases kinds k (by omega) e with g1|⟨g2,_⟩|⟨bO,n',x',g1⟩
       ·rw[g1];exact dD
       ·omega
       ·rw[g1];simp only[ed.gV,LR];exact dD
      ·exact dD
  have WC:=L1 ops.size (zA _);rw[show min ops.size j=j by omega]at WC;have Pj:xq (hS base es H0 (fun _=>true) j) id=some t':=by unfold xq;rw[hg];rfl
  obtain⟨gE,WN⟩:∃gE,hget (hS base es H0 E ops.size) id=some (.fmap t' (.ints gE)):=y2q (WC.trans Pj);have L3:∀k,j<k->k<=ops.size->(Cl (hS base es H0 (fun _=>true) k) id n).isSome=true:=by
   intro k
   induction k with
   |zero=>intro h;omega
   |succ k ih=>
    intro AA hk;by_cases e:k=j
    ·subst e;simp only[hS,if_true,gY,ed.gV];rw[y2r hg];rfl
    ·have dD:=ih (by omega) (by omega);simp only[hS,if_true];rcases kinds k (by omega) e with g1|⟨g2,_⟩|⟨bO,n',x',g1⟩
     ·rw[g1];exact dD
     ·omega
     ·rw[g1];simp only[ed.gV];exact y58 dD
  have GF:∀k,j<k->k<ops.size->∀bO n' x',es k= .ins bO n' x'->bO≠id\/n'≠n:=by
   intro k AA hk bO n' x' GD;have wh:=(eR k hk).resolve_left (by rw[GD];intro h;cases h);rw[GD]at wh;obtain⟨_,_,_,t1,m1,k1,v1,p1,nt,BA,dM⟩:=wh;obtain⟨_,_,_,_,_,_,_,t2,g2,wm,Po⟩:=R3 BA dM;by_cases e1:bO=id
   ·by_cases e2:n'=n
    ·exfalso;subst e1 e2
     have:=L3 k AA (by omega)
     unfold Cl at this;rw[wm]at this;simp only[KM,Po]at this;cases this
    ·exact .inr e2
   ·exact .inl e1
  have L2:∀k,j<k->k<=ops.size->∀i,hget (hS base es H0 E' k) i=hget (insE (hS base es H0 E k) id n x) i:=by
   intro k
   induction k with
   |zero=>intro h;omega
   |succ k ih=>
    intro AA hk i;by_cases e:k=j
    ·subst e;have sA:hS base es H0 E' k=hS base es H0 E k:=by
      have gen:∀q,q<=k->hS base es H0 E' q=hS base es H0 E q:=by
       intro q
       induction q with
       |zero=>intro _;rfl
       |succ q vH=>intro hq;simp only[hS];rw[vH (by omega),h2 q (by omega)]
      exact gen k (zA _)
     simp only[hS,h1,if_true,sC,Bool.false_eq_true,if_false,gY,ed.gV];rw[sA]
    ·have dD:=ih (by omega) (by omega);simp only[hS,h2 k e]
     split
     ·rcases kinds k (by omega) e with g1|⟨g2,_⟩|⟨bO,n',x',g1⟩
      ·rw[g1,g1];exact dD i
      ·omega
      ·rw[g1];simp only[ed.gV];exact XQ dD (GF k (by omega) (by omega) bO n' x' g1) i
     ·exact dD i
  have hmu:muF P (hS base es H0 E ops.size) t (.mp id) (.int .i64 n) (.int .i64 x)=some (id,.fmap t' (.ints (updI gE n x))):=by
   unfold muF;rw[fu];simp only[dT,muK,WN,muM]
  have s6:=oj.ev mo;have p7:=oj.ev ko;have hv1:=oj.ev vo;rw[em]at s6;rw[ek]at p7;rw[ev]at hv1;obtain⟨w',aU,a7⟩:=TP (P:=P) hs s6 p7 hv1 hmu;rw[zM (qC hw)];left;have qI:(execOp a.eval o).run P w= .ok .skip w':=by simp only[execOp,ho];simp[aU]
  unfold Oper.wp;rw[qI];refine hK _ _ _ ((a7.put (d:=o.dst) (by rw[iH];exact pf) (.any _)).congr (fun t=>by rw[jY t,iH,gY];rfl) (fun i=>?_));rw[L2 ops.size hj (zA _) i];unfold insE;rw[WN];rfl
theorem TF{al ids:List Nat}{q:Nat}(hq:q<=ops.size){H:Hp}{fr:Fr}(gI:∀a,al.contains a=true->∃id off,fget fr a= .ptr id off/\ids.contains id=true)(hc:KO al ids ops ex dl)(kX:∀i j a b,i<ops.size->j<ops.size->i≠j->((iU ops).getD j []).contains i=false->((iU ops).getD i []).contains j=false->kL (ops.getD i default).op=some a->kL (ops.getD j default).op=some b->tG ops a=true->tG ops b=true->a≠b->sep2 fr a b=true)
  (eR:∀j,j<ops.size->es j= .skip\/um P ops (hnew H) ex dl j (ops.getD j default) (dm ops es fr (fun _=>true) j) (hS (hnew H) es H (fun _=>true) j) (es j))
  (je:∀j,j<q->dok (fG ops j) N=true/\um P ops (hnew H) ex dl j (ops.getD j default) (dm ops es fr (fun _=>true) j) (hS (hnew H) es H (fun _=>true) j) (es j))
  (qP:∀j,q<=j->j<ops.size->∀i,i<q->((iU ops).getD j []).contains i=true) (Q:Exit->Act->World->Prop)
  (post:∀(listed:Array Bool) (a:Act) (w:World) (ρ:Nat->Addr),listed.size=ops.size->(∀i,i<ops.size->listed.getD i false=decide (i<q))->aO B w0 Mx N w ρ (dm ops es fr (fun _=>true) q) (hS (hnew H) es H (fun _=>true) q) a->wpAny P .any ops Q (ops.size-q) listed a w):
  ∀(f:Nat) (listed:Array Bool) (a:Act) (w:World),listed.size=ops.size->fx (fun i=>listed.getD i false) ops.size+f=q->(∀i,q<=i->listed.getD i false=false)->CI ops (fun i=>listed.getD i false)->
   (∃ρ,aO B w0 Mx N w ρ (dm ops es fr (fun i=>listed.getD i false) ops.size) (hS (hnew H) es H (fun i=>listed.getD i false) ops.size) a)->
   wpAny P .any ops Q (ops.size-q+f) listed a w:=by
 have Ht:∀(E:Nat->Bool),(∀i,q<=i->E i=false)->fx E ops.size=fx E q:=by
  intro E hE;have gen:∀d,q+d<=ops.size->fx E (q+d)=fx E q:=by
   intro d
   induction d with
   |zero=>intro _;rfl
   |succ d ih=>intro hd;rw[<-Nat.add_assoc];simp only[fx,hE (q+d) (by omega),Bool.false_eq_true,if_false];exact ih (by omega)
  have:=gen (ops.size-q) (by omega)
  rwa [show q+(ops.size-q)=ops.size by omega]at this
 intro f
 induction f with
 |zero=>
  intro listed a w fJ BW cP cW ⟨ρ,hs⟩;rw[Ht _ cP]at BW;have dz:=Tn q (by omega:fx (fun i=>listed.getD i false) q=q);have rz:∀i,i<ops.size->listed.getD i false=decide (i<q):=fun i hi=>by
   by_cases e:i<q
   ·rw[dz i e];simp[e]
   ·rw[cP i (by omega)];simp[e]
  have e1:∀t,fget (dm ops es fr (fun _=>true) q) t=fget (dm ops es fr (fun i=>listed.getD i false) ops.size) t:=fun t=>by
   rw[<-QX (ops:=ops) (es:=es) (fr0:=fr) (j:=q) (E:=fun i=>decide (i<q)) (fun _=>rfl) ops.size hq];exact Jj ops.size fun i hi _=>(rz i hi).symm
  have e2:hS (hnew H) es H (fun _=>true) q=hS (hnew H) es H (fun i=>listed.getD i false) ops.size:=by
   rw[<-KT (base:=hnew H) (es:=es) (H0:=H) (j:=q) (E:=fun i=>decide (i<q)) (fun _=>rfl) ops.size hq];exact CU ops.size fun i hi=> .inr (rz i hi).symm
  exact post listed a w ρ fJ rz (hs.congr e1 (fun i=>by rw[e2]))
 |succ f ih=>
  intro listed a w fJ BW cP cW ⟨ρ,hs⟩;have Wh:∃j,j<q/\listed.getD j false=false:=by
   refine zW fun hn=>?_;have dz:∀i,i<q->listed.getD i false=true:=fun i hi=>by
    cases hh:listed.getD i false with
    |true=>rfl
    |false=>exact zzA ⟨i,hi,hh⟩ hn
   have mQ:∀k,k<=q->fx (fun i=>listed.getD i false) k=k:=by
    intro k
    induction k with
    |zero=>intro _;rfl
    |succ k dD=>intro hk;simp only[fx,dD (by omega),dz k (by omega),if_true]
   rw[Ht _ cP,mQ q (zA _)]at BW;omega
  refine⟨fun iG=>?_,fun j hj=>?_⟩
  ·exfalso;obtain⟨j0,hj0,DN⟩:=Wh;have gen:∀m,∀j,j<=m->j<q->listed.getD j false=false->∃j,j<q/\listed.getD j false=false/\ ∀i,i<j->listed.getD i false=true:=by
    intro m
    induction m with
    |zero=>intro j wi hj hf;exact⟨j,hj,hf,fun i hi=>by omega⟩
    |succ m ihm=>
     intro j wi hj hf;by_cases JY:∃i,i<j/\listed.getD i false=false
     ·obtain⟨i,lk,uO⟩:=JY;exact ihm i (by omega) (by omega) uO
     ·refine⟨j,hj,hf,fun i hi=>?_⟩;cases hh:listed.getD i false with
      |true=>rfl
      |false=>exact zzA ⟨i,hi,hh⟩ JY
   obtain⟨j,hj,hf,JY⟩:=gen j0 j0 (zA _) hj0 DN;have hj:j<ops.size:=by omega
   have:j∈Region.ready .any ops listed:=mem_ready.2 ⟨by
    have dH:j<listed.size:=by omega
    simpa [dH] using hf,ops[j],by simp[hj],fun e he PD=>JY _ (hc.elt j hj e.on (by
     simp only[rn,zzE,List.mem_filter];exact⟨e,⟨by simpa [hj] using he,PD⟩,rfl⟩))⟩
   rw[iG]at this;cases this
  ·obtain⟨g1,o,g2,g3⟩:=mem_ready.1 hj;have gU:j<ops.size:=(Array.getElem?_eq_some_iff.1 g2).1;have dH:j<listed.size:=by omega
   have sC:listed.getD j false=false:=by simpa [dH] using g1
   have ho:ops.getD j default=o:=by simp[g2]
   have wu:∀e∈rn (ops.getD j default),listed.getD e false=true:=fun e he=>by
    rw[ho]at he;simp only[rn,zzE,List.mem_filter]at he;obtain⟨x,⟨vK,kf⟩,rfl⟩:=he;exact g3 x (by simpa using vK) kf
   have Kd:j<q:=by
    rcases zY j q with g|g
    ·exact g
    ·obtain⟨i,hi,uO⟩:=Wh
     have:=Lw (E:=fun i=>listed.getD i false) cW (qP j g gU i hi) wu
     rw[uO]at this;cases this
   have qH:(listed.setIfInBounds j true).getD j false=true:=by simp[dH]
   have qG:∀i,i≠j->(listed.setIfInBounds j true).getD i false=listed.getD i false:=fun i hi=>getD_set_ne false (Ne.symm hi)
   refine XO (P:=P) (N:=N) (ex:=ex) (dl:=dl) gI hc kX (fun i hi=>EP hi) eR cW (fun i hi=>?_) gU (je j Kd).1 (je j Kd).2 sC wu hs (E':=fun i=>(listed.setIfInBounds j true).getD i false) qH qG _ _ (fun a' w' ρ' a7=>ih _ a' w' (by simpa using fJ) ?_ ?_ ?_ ⟨ρ',a7⟩)
   ·have iN:i<listed.size:=by
     rcases zY i listed.size with g|g
     ·exact g
     ·simp[Nat.not_lt.2 g]at hi
    omega
   ·have:=Tm (E:=fun i=>listed.getD i false) (E':=fun i=>(listed.setIfInBounds j true).getD i false) sC qH qG ops.size
    rw[zM gU]at this;omega
   ·intro i hi;rw[qG i (by omega)];exact cP i hi
   ·intro k hk i hi;show (listed.setIfInBounds j true).getD i false=true;have hk:(listed.setIfInBounds j true).getD k false=true:=hk;by_cases e:i=j
    ·subst e;exact qH
    ·rw[qG i e];by_cases ek:k=j
     ·subst ek;exact wu i hi
     ·rw[qG k ek]at hk;exact cW k hk i hi
theorem T9{q:Nat}{H:Hp}{fr:Fr}{a:Act}{w:World}{ρ:Nat->Addr}{Q:Exit->Act->World->Prop}(hq:q<=ops.size)(hs:aO B w0 Mx N w ρ fr H a)
  (Gp:∀(f:Nat) (listed:Array Bool) (a:Act) (w:World),listed.size=ops.size->fx (fun i=>listed.getD i false) ops.size+f=q->(∀i,q<=i->listed.getD i false=false)->CI ops (fun i=>listed.getD i false)->
   (∃ρ,aO B w0 Mx N w ρ (dm ops es fr (fun i=>listed.getD i false) ops.size) (hS (hnew H) es H (fun i=>listed.getD i false) ops.size) a)->
   wpAny P .any ops Q (ops.size-q+f) listed a w):wpAny P .any ops Q ops.size (Array.replicate ops.size false) a {w with drawn:=w.drawn+1}:=by
 have h0:=Gp q (Array.replicate ops.size false) a {w with drawn:=w.drawn+1} (by simp) ?_ (fun i _=>zr _ _) (fun j hj=>?_) ⟨ρ,(hs.draw).congr (fun t=>?_) (fun i=>?_)⟩
 ·rwa [show ops.size-q+q=ops.size by omega]at h0
 ·have:∀k,fx (fun i=>(Array.replicate ops.size false).getD i false) k=0:=by
   intro k
   induction k with
   |zero=>rfl
   |succ k dD=>simp only[zr]at dD;simp only[fx,zr,dD];rfl
  rw[this];omega
 ·exfalso;have hj:(Array.replicate ops.size false).getD j false=true:=hj;rw[zr]at hj;cases hj
 ·have:∀k,dm ops es fr (fun i=>(Array.replicate ops.size false).getD i false) k=fr:=by
   intro k
   induction k with
   |zero=>rfl
   |succ k dD=>simp only[zr]at dD;simp only[dm,zr,dD];rfl
  rw[this]
 ·have:∀k,hS (hnew H) es H (fun i=>(Array.replicate ops.size false).getD i false) k=H:=by
   intro k
   induction k with
   |zero=>rfl
   |succ k dD=>simp only[zr]at dD;simp only[hS,zr,dD];rfl
  rw[this]
theorem TE{listed:Array Bool}(fJ:listed.size=ops.size)(dz:∀i,i<ops.size->listed.getD i false=true):Region.ready .any ops listed=[]:=by
 rw[List.eq_nil_iff_forall_not_mem];intro j hj;obtain⟨g1,o,g2,_⟩:=mem_ready.1 hj;have gU:j<ops.size:=(Array.getElem?_eq_some_iff.1 g2).1
 have:=dz j gU
 have dH:j<listed.size:=by omega
 simp[dH]at this g1;rw[this]at g1;cases g1
theorem a8.vG(al ids:List Nat){id:Nat}{fr:Fr}{H:Hp}{Q:Exit->Fr->Hp->Prop}(ex dl:List (List Nat))(cC:(sF al ids ops ex dl&&(ex.length==ops.size)&&(dl.length==ops.size))=true)(hm:P.follows .mixedOrders=true)
  (gI:∀a,al.contains a=true->∃id off,fget fr a= .ptr id off/\ids.contains id=true) (kX:∀i j a b,i<ops.size->j<ops.size->i≠j->((iU ops).getD j []).contains i=false->((iU ops).getD i []).contains j=false->kL (ops.getD i default).op=some a->kL (ops.getD j default).op=some b->tG ops a=true->tG ops b=true->a≠b->sep2 fr a b=true)
  (h:eI P N ops (hnew H) 0 ops.toList ex dl fr H (Q .normal)):a8 P N id ops fr H Q:=by
 simp only[zV,beq_iff_eq]at cC;obtain⟨⟨gC,mI⟩,Aw⟩:=cC;have hc:=QV gC;obtain⟨es,h1,h2⟩:=MA (P:=P) (N:=N) (ops:=ops) (base:=hnew H) (ex:=ex) (dl:=dl) ops.size 0 fr H (by omega) mI Aw (by
  rw[zU (by simp)];simpa using h)
 have eR:∀j,j<ops.size->dok (fG ops j) N=true/\um P ops (hnew H) ex dl j (ops.getD j default) (dm ops es fr (fun _=>true) j) (hS (hnew H) es H (fun _=>true) j) (es j):=fun j hj=>by
  obtain⟨g1,fr',H',g2,g3,g4⟩:=h1 j hj;rw[Nat.zero_add]at g1 g4;rw[Ew]at g2;rw[D5]at g3;subst g2 g3;exact⟨g1,g4⟩
 rw[Ew,D5]at h2;refine⟨fun B w0 Mx w ρ a hs=>wp_region_any hm (T9 (q:=ops.size) (zA _) hs (TF (zA _) gI hc kX (fun j hj=> .inr (eR j hj).2) eR (fun j h1 h2=>by omega) _ (fun listed a w ρ fJ rz hs=>?_)))⟩;rw[Nat.sub_self];exact⟨TE fJ (fun i hi=>by rw[rz i hi];simp[hi]),ρ,_,_,h2,hs⟩
theorem a8.Bv{id:Nat}{fr:Fr}{H:Hp}{Q:Exit->Fr->Hp->Prop}(ex dl:List (List Nat))(cC:(Hu ops ex dl&&(ex.length==ops.size)&&(dl.length==ops.size))=true)(hm:P.follows .mixedOrders=true)
  (kX:∀i j a b,i<ops.size->j<ops.size->i≠j->((iU ops).getD j []).contains i=false->((iU ops).getD i []).contains j=false->kL (ops.getD i default).op=some a->kL (ops.getD j default).op=some b->tG ops a=true->tG ops b=true->a≠b->sep2 fr a b=true)
  (h:eI P N ops (hnew H) 0 ops.toList ex dl fr H (Q .normal)):a8 P N id ops fr H Q:=
 a8.vG [] [] ex dl cC hm (fun a h=>by simp at h) kX h
def yqd(P:Program)(N:Nat)(ops:Array Oper)(K:Fr->Hp->Prop)(fr:Fr)(H:Hp):Prop:=fO P N ops (ops.toList.drop (ops.size-1)) fr H K
theorem a8.av{id:Nat}{fr:Fr}{H:Hp}{Q:Exit->Fr->Hp->Prop}(ex dl:List (List Nat))(cC:(Hu ops ex dl&&(ex.length==ops.size)&&(dl.length==ops.size)&&HQ ops&&LS ops)=true)(hm:P.follows .mixedOrders=true)
  (h:eI P N ops (hnew H) 0 (ops.toList.take (ops.size-1)) ex dl fr H (yqd P N ops (Q .normal))):a8 P N id ops fr H Q:=by
 simp only[zV,beq_iff_eq]at cC;obtain⟨⟨⟨⟨gC,mI⟩,Aw⟩,uK⟩,Pf⟩:=cC;have hc:=QV gC;unfold LS at Pf;simp only[zV,decide_eq_true_eq,Option.isNone_iff_eq_none,zZ,zK]at Pf;obtain⟨⟨BG,BR⟩,ll⟩:=Pf
 obtain⟨eJ,yT,AK⟩:=MA (P:=P) (N:=N) (ops:=ops) (base:=hnew H) (ex:=ex) (dl:=dl) (ops.size-1) 0 fr H (by omega) mI Aw (by simpa only[List.drop_zero] using h);obtain⟨es,Pw,GB⟩:∃es:Nat->ed,es (ops.size-1)= .skip/\ ∀i,i<ops.size-1->es i=eJ i:=⟨fun i=>if i<ops.size-1 then eJ i else .skip,by simp,fun i hi=>by simp[hi]⟩
 have dK:∀k,k<=ops.size-1->dm ops es fr (fun _=>true) k=dm ops eJ fr (fun _=>true) k/\hS (hnew H) es H (fun _=>true) k=hS (hnew H) eJ H (fun _=>true) k:=by
  intro k
  induction k with
  |zero=>intro _;exact⟨rfl,rfl⟩
  |succ k ih=>
   intro hk;obtain⟨i1,i2⟩:=ih (by omega);simp only[dm,hS,if_true,i1,i2,GB k (by omega),and_self]
 have eR:∀j,j<ops.size-1->dok (fG ops j) N=true/\um P ops (hnew H) ex dl j (ops.getD j default) (dm ops es fr (fun _=>true) j) (hS (hnew H) es H (fun _=>true) j) (es j):=fun j hj=>by
  obtain⟨g1,fr',H',g2,g3,g4⟩:=yT j hj;rw[Nat.zero_add]at g1 g4;rw[Ew]at g2;rw[D5]at g3;subst g2 g3;rw[(dK j (by omega)).1,(dK j (by omega)).2,GB j hj];exact⟨g1,g4⟩
 rw[Ew,D5,<-(dK (ops.size-1) (zA _)).1,<-(dK (ops.size-1) (zA _)).2]at AK;refine⟨fun B w0 Mx w ρ a hs=>wp_region_any hm (T9 (q:=ops.size-1) (by omega) hs (TF (by omega) (al:=[]) (ids:=[]) (fun a h=>by simp at h) hc (fun i j a b hi hj aJ h1 h2 ha hb ua ub gL=>?_) (fun j hj=>?_) eR (fun j h1 h2 i hi=>?_) _ (fun listed a w ρ fJ rz hs=>?_)))⟩
 ·exfalso;have h0:=zZ.1 (zZ.1 uK j (by simpa using hj)) i (by simpa using hi);simp only[Bool.or_eq_true,beq_iff_eq,Bool.not_eq_true']at h0;rcases h0 with ((h0|h0)|h0)|h0
  ·exact aJ h0
  ·unfold w5 at h0;rw[ha,hb]at h0;simp only[ze,ua,ub,Bool.and_true,bne_eq_false_iff_eq]at h0;exact gL h0
  ·rw[h1]at h0;cases h0
  ·rw[h2]at h0;cases h0
 ·rcases zY j (ops.size-1) with g|g
  ·exact .inr (eR j g).2
  ·rw[show j=ops.size-1 by omega];exact .inl Pw
 ·rw[show j=ops.size-1 by omega];exact ll i hi
 ·rw[show ops.size-(ops.size-1)=0+1 by omega];refine⟨fun iG=>?_,fun j hj=>?_⟩
  ·exfalso
   have:ops.size-1∈Region.ready .any ops listed:=mem_ready.2 ⟨by
    have dH:ops.size-1<listed.size:=by omega
    have:=rz (ops.size-1) (by omega)
    simpa [dH] using this,ops[ops.size-1],by simp,fun e he PD=>by
     have aC:=hc.elt (ops.size-1) (by omega) e.on (by
      simp only[rn,zzE,List.mem_filter];refine⟨e,⟨?_,PD⟩,rfl⟩;have hgd:ops.getD (ops.size-1) default=ops[ops.size-1]:=by simp[show ops.size-1<ops.size by omega]
      rw[hgd];simpa using he)
     rw[rz e.on (by omega)];simp[aC]⟩
   rw[iG]at this;cases this
  ·obtain⟨g1,o,g2,g3⟩:=mem_ready.1 hj;have gU:j<ops.size:=(Array.getElem?_eq_some_iff.1 g2).1;have dH:j<listed.size:=by omega
   have sC:listed.getD j false=false:=by simpa [dH] using g1
   have Kd:j=ops.size-1:=by
    rw[rz j gU]at sC
    have:¬j<ops.size-1:=by simpa using sC
    omega
   subst Kd;have ho:ops.getD (ops.size-1) default=o:=by simp[g2]
   unfold wpOp;rw[g2];simp only;rw[ho]at BR;unfold yqd at AK;have nK:ops.toList.drop (ops.size-1)=[o]:=by
    rw[List.drop_eq_getElem_cons (by simp;omega),List.drop_of_length_le (by simp;omega)]
    have:=(Array.getElem?_eq_some_iff.1 g2).2
    simpa using this
   rw[nK]at AK;simp only[fO,BR]at AK;rw[zM (by simp[Region.wanted,BR])];left;refine Oper.wp_mono ?_ (EV hs AK _);rintro a' w' ⟨ρ',fr',H',hq,a7⟩;exact⟨TE (by simpa using fJ) (fun i hi=>by
    by_cases e:i=ops.size-1
    ·subst e;simp[dH]
    ·rw[getD_set_ne false (Ne.symm e),rz i hi];simp;omega),ρ',fr',H',hq,a7⟩
theorem a8.intro{id:Nat}{fr:Fr}{H:Hp}{Q:Exit->Fr->Hp->Prop}(ex dl:List (List Nat))(cC:(Hu ops ex dl&&(ex.length==ops.size)&&(dl.length==ops.size)&&HQ ops)=true)(hm:P.follows .mixedOrders=true)
  (h:eI P N ops (hnew H) 0 ops.toList ex dl fr H (Q .normal)):a8 P N id ops fr H Q:=by
 rw[zV]at cC;refine a8.Bv ex dl cC.1 hm (fun i j a b hi hj aJ h1 h2 ha hb ua ub gL=>?_) h;exfalso;have h0:=zZ.1 (zZ.1 cC.2 j (by simpa using hj)) i (by simpa using hi);simp only[Bool.or_eq_true,beq_iff_eq,Bool.not_eq_true']at h0;rcases h0 with ((h0|h0)|h0)|h0
 ·exact aJ h0
 ·unfold w5 at h0;rw[ha,hb]at h0;simp only[ze,ua,ub,Bool.and_true,bne_eq_false_iff_eq]at h0;exact gL h0
 ·rw[h1]at h0;cases h0
 ·rw[h2]at h0;cases h0
def resV(ids:List Nat):AV->Bool
 |.ptr id _=>ids.contains id
 |_=>false
def resF(fr:Fr)(al ids:List Nat):Bool:=al.all fun a=>resV ids (fget fr a)
theorem y6c{fr:Fr}{al ids:List Nat}(h:resF fr al ids=true){a:Nat}(ha:a∈al):∃id off,fget fr a= .ptr id off/\ids.contains id=true:=by
 have:=zZ.1 h a ha
 generalize fget fr a=x at*;cases x with
 |ptr id off=>exact⟨id,off,rfl,this⟩
 |_=>cases this
attribute [go_sem] resV resF
theorem a8.Bu(al ids:List Nat){id:Nat}{fr:Fr}{H:Hp}{Q:Exit->Fr->Hp->Prop}(ex dl:List (List Nat))(l:List Nat)(cC:(sF al ids ops ex dl&&(ex.length==ops.size)&&(dl.length==ops.size)&&(Ih ops==l))=true)(hm:P.follows .mixedOrders=true)
  (kX:sepF fr l=true) (gI:resF fr al ids=true) (h:eI P N ops (hnew H) 0 ops.toList ex dl fr H (Q .normal)):a8 P N id ops fr H Q:=by
 rw[zV,beq_iff_eq]at cC;rw[<-cC.2]at kX;refine a8.vG al ids ex dl cC.1 hm (fun a ha=>y6c gI (List.contains_iff_mem.1 ha)) (fun i j a b hi hj aJ h1 h2 ha hb ua ub gL=>?_) h;have mem:∀i a,i<ops.size->kL (ops.getD i default).op=some a->a∈Ih ops:=fun i a hi ha=>by
  unfold Ih;rw[List.mem_filterMap];refine⟨ops.getD i default,?_,ha⟩
  have:ops.getD i default=ops[i]:=by simp[hi]
  rw[this];simp
 exact zZ.1 (zZ.1 kX a (mem i a hi ha)) b (mem j b hj hb)
end
inductive Tr where
 |done
 |node (l:List (Nat×Tr))
def trD:List Nat->Tr
 |[]=> .done
 |i::r=> .node [(i,trD r)]
def trP:List Nat->Tr->Tr
 |[],t=>t
 |i::r,t=> .node [(i,trP r t)]
mutual
def pz(ops:Array Oper)(listed:Array Bool):Nat->Tr->Bool
 |0,.done=>(Region.ready .any ops listed).isEmpty
 |f+1,.node l=> !(Region.ready .any ops listed).isEmpty&&(Region.ready .any ops listed==l.map (·.1))&&HP ops listed f l
 |_,_=>false
def HP(ops:Array Oper)(listed:Array Bool)(f:Nat):List (Nat×Tr)->Bool
 |[]=>true
 |(i,t)::r=>pz ops (listed.setIfInBounds i true) f t&&HP ops listed f r
end
mutual
def awT(P:Program)(N:Nat)(ops:Array Oper):Tr->Fr->Hp->(Fr->Hp->Prop)->Prop
 |.done,fr,H,K=>K fr H
 |.node l,fr,H,K=>awTs P N ops l fr H K
def awTs(P:Program)(N:Nat)(ops:Array Oper):List (Nat×Tr)->Fr->Hp->(Fr->Hp->Prop)->Prop
 |[],_,_,_=>True
 |(i,t)::r,fr,H,K=>fO P N ops ((ops[i]?).toList) fr H (fun fr' H'=>awT P N ops t fr' H' K)/\awTs P N ops r fr H K
end
theorem Jo{P:Program}{N:Nat}{ops:Array Oper}{B:Nat}{w0:js}{Mx:Nat->Prop}{w:World}{ρ:Nat->Addr}{fr:Fr}{H:Hp}{a:Act}{K:Fr->Hp->Prop}{i:Nat}{o:Oper}(hi:ops[i]?=some o)(hq:fO P N ops [o] fr H K)(hs:aO B w0 Mx N w ρ fr H a)(Q:Exit->Act->World->Prop)(K':Act->World->Prop)(hK:∀a' w' ρ' fr' H',K fr' H'->aO B w0 Mx N w' ρ' fr' H' a'->K' a' w'):wpOp P ops Q i K' a w:=by
 unfold wpOp;rw[hi];simp only[fO]at hq⊢;have jJ:∀(a':Act) (w':World),(∃ρ' fr' H',K fr' H'/\aO B w0 Mx N w' ρ' fr' H' a')->K' a' w':=fun a' w' ⟨ρ',fr',H',h1,h2⟩=>hK a' w' ρ' fr' H' h1 h2
 split at hq
 ·rename_i hg
  have hw:Region.wanted o (yielded ops a.tmps)=true:=by simp[Region.wanted,hg]
  rw[zM hw];exact .inl (Oper.wp_mono jJ (EV hs hq _))
 ·rename_i j b hg
  split at hq
  ·rename_i c hc
   have hy:=Jp hs hc;by_cases hcb:c=b
   ·have hw:Region.wanted o (yielded ops a.tmps)=true:=by simp[Region.wanted,hg,hy,hcb]
    rw[zM hw];exact .inl (Oper.wp_mono jJ (EV (hs.gput (hcb▸hc)) (hq.1 hcb) _))
   ·have hw:¬Region.wanted o (yielded ops a.tmps)=true:=by simp[Region.wanted,hg,hy,hcb]
    rw[zL hw];have qY:c= !b:=by cases c<;>cases b<;>simp_all
    obtain⟨hd,hq⟩:=hq.2 qY;exact hK _ _ ρ _ _ hq ((hs.gput (qY▸hc)).put hd (.tup [] [] rfl (fun i v x h=>by simp at h)))
  ·rename_i hc
   have hy:=Nh hs hc;have hw:¬Region.wanted o (yielded ops a.tmps)=true:=by simp[Region.wanted,hg,hy]
   rw[zL hw];exact hK _ _ ρ _ _ hq.2 (hs.put hq.1 (.tup [] [] rfl (fun i v x h=>by simp at h)))
  ·exact hq.elim
theorem CT{P:Program}{N:Nat}{ops:Array Oper}{fr:Fr}{H:Hp}{K:Fr->Hp->Prop}:∀(l:List (Nat×Tr)),awTs P N ops l fr H K->∀q∈l,fO P N ops ((ops[q.1]?).toList) fr H (fun fr' H'=>awT P N ops q.2 fr' H' K)
 |[],_,q,hq=>by cases hq
 |(i,t)::r,h,q,hq=>by
  simp only[awTs]at h;rcases zzD.1 hq with e|e
  ·subst e;exact h.1
  ·exact CT r h.2 q e
theorem TD{ops:Array Oper}{listed:Array Bool}{f:Nat}:∀(l:List (Nat×Tr)),HP ops listed f l=true->∀q∈l,pz ops (listed.setIfInBounds q.1 true) f q.2=true
 |[],_,q,hq=>by cases hq
 |(i,t)::r,h,q,hq=>by
  simp only[HP,zV]at h;rcases zzD.1 hq with e|e
  ·subst e;exact h.1
  ·exact TD r h.2 q e
theorem XN{P:Program}{N:Nat}{ops:Array Oper}{B:Nat}{w0:js}{Mx:Nat->Prop}{K:Fr->Hp->Prop}(Q:Exit->Act->World->Prop)(hQ:∀a' w' ρ' fr' H',K fr' H'->aO B w0 Mx N w' ρ' fr' H' a'->Q .normal a' w'):∀(f:Nat) (t:Tr) (listed:Array Bool) (w:World) (ρ:Nat->Addr) (fr:Fr) (H:Hp) (a:Act),pz ops listed f t=true->awT P N ops t fr H K->aO B w0 Mx N w ρ fr H a->wpAny P .any ops Q f listed a w:=by
 intro f
 induction f with
 |zero=>
  intro t listed w ρ fr H a hc h hs;cases t with
  |done=>
   simp only[pz,List.isEmpty_iff]at hc;simp only[awT]at h;exact⟨hc,hQ _ _ ρ _ _ h hs⟩
  |node l=>simp[pz]at hc
 |succ f ih=>
  intro t listed w ρ fr H a hc h hs;cases t with
  |done=>simp[pz]at hc
  |node l=>
   simp only[pz,zV,Bool.not_eq_true',beq_iff_eq]at hc;simp only[awT]at h;refine⟨fun iG=>by rw[iG]at hc;simp at hc,fun i hi=>?_⟩;rw[hc.1.2]at hi;obtain⟨q,hq,rfl⟩:=zzE.1 hi;have h1:=CT l h q hq;have h2:=TD l hc.2 q hq;have hr:q.1∈Region.ready .any ops listed:=by rw[hc.1.2];exact List.mem_map_of_mem hq
   obtain⟨_,o,g2,_⟩:=mem_ready.1 hr;rw[g2]at h1;exact Jo g2 h1 hs _ _ fun a' w' ρ' fr' H' hk a7=>ih q.2 _ w' ρ' fr' H' a' h2 hk a7
theorem a8.Bt{P:Program}{N:Nat}{ops:Array Oper}{id:Nat}{fr:Fr}{H:Hp}{Q:Exit->Fr->Hp->Prop}(t:Tr)(cC:pz ops (Array.replicate ops.size false) ops.size t=true)(hm:P.follows .mixedOrders=true)
  (h:awT P N ops t fr H (Q .normal)):a8 P N id ops fr H Q:=
 ⟨fun _ _ _ _ ρ a hs=>wp_region_any hm (XN _ (fun _ _ ρ' fr' H' hk a7=>⟨ρ',fr',H',hk,a7⟩) ops.size t _ _ ρ fr H a cC h hs.draw)⟩
section
variable{P:Program}{N:Nat}{ops:Array Oper}{fr fr':Fr}{H H':Hp}{K:Fr->Hp->Prop}
theorem yy0{t:Tr}(h1:fr=fr')(h2:H=H'):awT P N ops t fr H K=awT P N ops t fr' H' K:=by rw[h1,h2]
theorem ywt{l:List (Nat×Tr)}(h1:fr=fr')(h2:H=H'):awTs P N ops l fr H K=awTs P N ops l fr' H' K:=by rw[h1,h2]
end
attribute [congr] yy0 ywt
attribute [go_sem] trD trP awT awTs Option.toList_some
section
variable(P:Program)(N:Nat)(ops:Array Oper)(base j:Nat)(fr:Fr)(H:Hp)(K:Fr->Hp->Prop)
structure KS(d:Option Nat)(Hd:Hp)(r:List Oper)(bK bL:List (List Nat))(g:Nat)(xs:List AV)(nf:Bool):Prop where
 out:Cx P g xs Hd (base+j) (fun x=>eI P N ops base (j+1) r bK bL (fput fr d x) H K) (fun x ob=>nf=true/\eI P N ops base (j+1) r bK bL (fput fr d x) ((base+j,ob)::H) K)
def kQ(o:Oper)(r:List Oper)(bK bL:List (List Nat))(p:Prop)(x:AV):Prop:=p/\eI P N ops base (j+1) r bK bL (fput fr o.dst x) H K
def kR(o:Oper)(r:List Oper)(bK:List (List Nat))(dl:List Nat)(bL:List (List Nat))(p:Prop)(x:AV):Prop:=(yai (dl.map (bk base)) H).all (fun q=>sO (yai (dl.map (bk base)) H) q.2)=true/\p/\eI P N ops base (j+1) r bK bL (fput fr o.dst x) H K
def kA(o:Oper)(r:List Oper)(bK bL:List (List Nat))(p:Prop)(q:AV×AObj):Prop:=p/\eI P N ops base (j+1) r bK bL (fput fr o.dst q.1) ((base+j,q.2)::H) K
def kS(o:Oper)(r:List Oper)(bK bL:List (List Nat))(p:Prop)(q:Nat×AObj):Prop:=p/\eI P N ops base (j+1) r bK bL (fput fr o.dst .any) (hset H q.1 q.2) K
def kI(o:Oper)(r:List Oper)(bK bL:List (List Nat))(p:Prop)(q:Nat×Int×Int):Prop:=p/\eI P N ops base (j+1) r bK bL (fput fr o.dst .any) (insE H q.1 q.2.1 q.2.2) K
def kP(o:Oper)(r:List Oper)(bK bL:List (List Nat))(p:Prop)(q:AV×Option Nat×AObj):Prop:=p/\eI P N ops base (j+1) r bK bL (fput fr o.dst q.1) ((base+j,q.2.2)::hgo H q.2.1) K
def kC(o:Oper)(r:List Oper)(bK:List (List Nat))(dl:List Nat)(bL:List (List Nat))(xs:List AV)(g:Nat)(cap:List AV):Prop:=(yai (dl.map (bk base)) H).all (fun q=>sO (yai (dl.map (bk base)) H) q.2)=true/\KS P N ops base j fr H K o.dst (yai (dl.map (bk base)) H) r bK bL g (xs++cap) (!(dl.map (bk base)).contains (base+j))
def awDX(o:Oper)(r:List Oper)(ex:List Nat)(bK:List (List Nat))(dl:List Nat)(bL:List (List Nat)):Prop:=match o.op with
 |.store t x y=>mO (stF P H t (evA (cD ex fr) x) (evA (cD ex fr) y)) (kS P N ops base j fr H K o r bK bL) False
 |.insert t m k v=>mO (inF P H t (evA (cD ex fr) m) (evA (cD ex fr) k) (evA (cD ex fr) v)) (kI P N ops base j fr H K o r bK bL) False
 |.call {callee:= .builtin .append,args:=args,argTypes:=ts}=>match args.toList,ts.toList with
  |[s,x],[t,t']=>t=t'/\mO (apG P (base+j) H t (evA (cD ex fr) s) (evA (cD ex fr) x)) (kP P N ops base j fr H K o r bK bL) False
  |_,_=>False
 |.call {callee:= .value f,args:=args, .. }=>mF (evA (nC (yai (dl.map (bk base)) H) (cD ex fr)) f) (kC P N ops base j fr H K o r bK dl bL (args.toList.map (evA (nC (yai (dl.map (bk base)) H) (cD ex fr)))))
 |_=>False
def awDn(o:Oper)(r:List Oper)(ex:List Nat)(bK:List (List Nat))(dl:List Nat)(bL:List (List Nat)):Prop:=cvOk P o.op=true/\dok o.dst N=true/\if ycm o.op then mO (quF P H (evA (cD ex fr)) o.op) (kQ P N ops base j fr H K o r bK bL) False
    else mO (quF P (yai (dl.map (bk base)) H) (evA (nC (yai (dl.map (bk base)) H) (cD ex fr))) o.op) (kR P N ops base j fr H K o r bK dl bL)
     (mO (alF P (base+j) (evA (cD ex fr)) o.op) (kA P N ops base j fr H K o r bK bL) (awDX P N ops base j fr H K o r ex bK dl bL))
theorem R0(o:Oper)(r:List Oper)(ex:List Nat)(bK:List (List Nat))(dl:List Nat)(bL:List (List Nat)):(eI.awDO P N base j o ex dl fr H fun fr' H'=>eI P N ops base (j+1) r bK bL fr' H' K)=awDn P N ops base j fr H K o r ex bK dl bL:=by
 unfold eI.awDO awDn awDX mO
 split
 ·rcases quF P H (evA (cD ex fr)) o.op with _|⟨p,r⟩<;>rfl
 ·rcases quF P (yai (dl.map (bk base)) H) (evA (nC (yai (dl.map (bk base)) H) (cD ex fr))) o.op with _|⟨p,r⟩
  ·rcases alF P (base+j) (evA (cD ex fr)) o.op with _|⟨p,r,ob⟩
   ·simp only;generalize o.op=op;cases op<;>try rfl
    case store t x y=>
     simp only;rcases stF P H t (evA (cD ex fr) x) (evA (cD ex fr) y) with _|⟨p,i,ob⟩<;>rfl
    case insert t m k v=>
     simp only;rcases inF P H t (evA (cD ex fr) m) (evA (cD ex fr) k) (evA (cD ex fr) v) with _|⟨p,i,n,x⟩<;>rfl
    case call c=>
     obtain⟨callee,args,ts⟩:=c;cases callee<;>try rfl
     case builtin b=>
      cases b<;>try rfl
      generalize hl:args.toList=l1;generalize hm:ts.toList=l2;simp only[hl,hm]
      match l1,l2 with
      |[s,x],[t,t']=>
       simp only;rcases apG P (base+j) H t (evA (cD ex fr) s) (evA (cD ex fr) x) with _|⟨p,r,g,ob⟩<;>rfl
      |[],_=>rfl
      |[_],_=>rfl
      |_::_::_::_,_=>rfl
      |[_,_],[]=>rfl
      |[_,_],[_]=>rfl
      |[_,_],_::_::_::_=>rfl
     case value f=>
      simp only[mF,kC];cases evA (nC (yai (dl.map (bk base)) H) (cD ex fr)) f<;>first|rfl|(simp only[eq_iff_iff];exact⟨fun h=>⟨h.1,h.2.1,h.2.2.1,⟨h.2.2.2⟩⟩,fun h=>⟨h.1,h.2.1,h.2.2.1,h.2.2.2.out⟩⟩)
   ·rfl
  ·rfl
def lv(c b:Bool)(o:Oper)(r:List Oper)(ex:List Nat)(bK:List (List Nat))(dl:List Nat)(bL:List (List Nat)):Prop:=(c=b->awDn P N ops base j fr H K o r ex bK dl bL)/\(c= !b->dok o.dst N=true/\eI P N ops base (j+1) r bK bL (fput fr o.dst (.tup [])) H K)
section
variable(o:Oper)(r:List Oper)(ex:List Nat)(bK:List (List Nat))(dl:List Nat)(bL:List (List Nat))
theorem y6d:lv P N ops base j fr H K true true o r ex bK dl bL=awDn P N ops base j fr H K o r ex bK dl bL:=by simp[lv]
theorem y6e:lv P N ops base j fr H K false false o r ex bK dl bL=awDn P N ops base j fr H K o r ex bK dl bL:=by simp[lv]
theorem y6f:lv P N ops base j fr H K true false o r ex bK dl bL=(dok o.dst N=true/\eI P N ops base (j+1) r bK bL (fput fr o.dst (.tup [])) H K):=by simp[lv]
theorem y6g:lv P N ops base j fr H K false true o r ex bK dl bL=(dok o.dst N=true/\eI P N ops base (j+1) r bK bL (fput fr o.dst (.tup [])) H K):=by simp[lv]
end
def kG(b:Bool)(o:Oper)(r:List Oper)(ex:List Nat)(bK:List (List Nat))(dl:List Nat)(bL:List (List Nat))(c:Bool):Prop:=lv P N ops base j fr H K c b o r ex bK dl bL
def kZ(o:Oper)(r:List Oper)(bK bL:List (List Nat))(_:Unit):Prop:=dok o.dst N=true/\eI P N ops base (j+1) r bK bL (fput fr o.dst (.tup [])) H K
theorem kZ_eq(o:Oper)(r:List Oper)(bK bL:List (List Nat))(u:Unit):kZ P N ops base j fr H K o r bK bL u=(dok o.dst N=true/\eI P N ops base (j+1) r bK bL (fput fr o.dst (.tup [])) H K):=rfl
def awDg(o:Oper)(r:List Oper)(ex:List Nat)(bK:List (List Nat))(dl:List Nat)(bL:List (List Nat)):Prop:=match o.guard with
 |none=>awDn P N ops base j fr H K o r ex bK dl bL
 |some (g,b)=>mG (gval ops (cD ex fr) g) (kG P N ops base j fr H K b o r ex bK dl bL) (kZ P N ops base j fr H K o r bK bL)
theorem kQ_eq(o:Oper)(r:List Oper)(bK bL:List (List Nat))(p:Prop)(x:AV):kQ P N ops base j fr H K o r bK bL p x=(p/\eI P N ops base (j+1) r bK bL (fput fr o.dst x) H K):=rfl
theorem kR_eq(o:Oper)(r:List Oper)(bK:List (List Nat))(dl:List Nat)(bL:List (List Nat))(p:Prop)(x:AV):kR P N ops base j fr H K o r bK dl bL p x=((yai (dl.map (bk base)) H).all (fun q=>sO (yai (dl.map (bk base)) H) q.2)=true/\p/\eI P N ops base (j+1) r bK bL (fput fr o.dst x) H K):=rfl
theorem kA_eq(o:Oper)(r:List Oper)(bK bL:List (List Nat))(p:Prop)(x:AV)(y:AObj):kA P N ops base j fr H K o r bK bL p (x,y)=(p/\eI P N ops base (j+1) r bK bL (fput fr o.dst x) ((base+j,y)::H) K):=rfl
theorem kS_eq(o:Oper)(r:List Oper)(bK bL:List (List Nat))(p:Prop)(x:Nat)(y:AObj):kS P N ops base j fr H K o r bK bL p (x,y)=(p/\eI P N ops base (j+1) r bK bL (fput fr o.dst .any) (hset H x y) K):=rfl
theorem kI_eq(o:Oper)(r:List Oper)(bK bL:List (List Nat))(p:Prop) x y z:kI P N ops base j fr H K o r bK bL p (x,y,z)=(p/\eI P N ops base (j+1) r bK bL (fput fr o.dst .any) (insE H x y z) K):=rfl
theorem kP_eq(o:Oper)(r:List Oper)(bK bL:List (List Nat))(p:Prop) x y z:kP P N ops base j fr H K o r bK bL p (x,y,z)=(p/\eI P N ops base (j+1) r bK bL (fput fr o.dst x) ((base+j,z)::hgo H y) K):=rfl
theorem kC_eq(o:Oper)(r:List Oper)(bK:List (List Nat))(dl:List Nat)(bL:List (List Nat))(xs:List AV)(g:Nat)(cap:List AV):kC P N ops base j fr H K o r bK dl bL xs g cap=((yai (dl.map (bk base)) H).all (fun q=>sO (yai (dl.map (bk base)) H) q.2)=true/\KS P N ops base j fr H K o.dst (yai (dl.map (bk base)) H) r bK bL g (xs++cap) (!(dl.map (bk base)).contains (base+j))):=rfl
theorem kG_eq(b:Bool)(o:Oper)(r:List Oper)(ex:List Nat)(bK:List (List Nat))(dl:List Nat)(bL:List (List Nat))(c:Bool):kG P N ops base j fr H K b o r ex bK dl bL c=(lv P N ops base j fr H K c b o r ex bK dl bL):=rfl
theorem y6h(e d:List (List Nat)):eI P N ops base j [] e d fr H K=K fr H:=by simp only[eI]
theorem y2t(o:Oper)(r:List Oper)(ex:List Nat)(bK:List (List Nat))(dl:List Nat)(bL:List (List Nat)):eI P N ops base j (o::r) (ex::bK) (dl::bL) fr H K=awDg P N ops base j fr H K o r ex bK dl bL:=by
 unfold awDg mG kG lv kZ;simp only[eI];rcases o.guard with _|⟨g,b⟩
 ·exact R0 P N ops base j fr H K o r ex bK dl bL
 ·simp only;rcases gval ops (cD ex fr) g with _|_|_|_|_|(_|_)|_|_|_|_|_|_|_<;>first|rfl|(simp only[rC,R0])
end
theorem ag{P:Program}{N:Nat}{ops:Array Oper}{base j:Nat}{fr:Fr}{H:Hp}{K:Fr->Hp->Prop}{c b:Bool}{o:Oper}{r:List Oper}{ex:List Nat}{bK:List (List Nat)}{dl:List Nat}{bL:List (List Nat)}(h1:c=b->awDn P N ops base j fr H K o r ex bK dl bL)(h2:c= !b->dok o.dst N=true/\eI P N ops base (j+1) r bK bL (fput fr o.dst (.tup [])) H K):lv P N ops base j fr H K c b o r ex bK dl bL:=⟨h1,h2⟩
section
variable{P:Program}{N base j:Nat}{fr fr':Fr}{H H':Hp}
theorem yy1{ops:Array Oper}{r:List Oper}{e d:List (List Nat)}{j':Nat}{K:Fr->Hp->Prop}(h0:j=j')(h1:fr=fr')(h2:H=H'):eI P N ops base j r e d fr H K=eI P N ops base j' r e d fr' H' K:=by rw[h0,h1,h2]
end
def scV(H:Hp)(x:AV):AV:=if s3 H x then x else .any
def Qb(b:Bool)(x:AV):AV:=if b then .any else x
theorem y6i(H:Hp)(fr:Fr)(t:Nat):fget (nC H fr) t=scV H (fget fr t):=by
 induction fr with
 |nil=>rfl
 |cons p r ih=>
  obtain⟨s,x⟩:=p;simp only[nC,fget];by_cases h:s=t
  ·simp[h,scV]
  ·simp only[h,if_false];exact ih
theorem y6j(ex:List Nat)(fr:Fr)(t:Nat):fget (cD ex fr) t=Qb (ex.contains t) (fget fr t):=by rw[EL];rfl
theorem erV_t(x:AV):Qb true x= .any:=rfl
theorem erV_f(x:AV):Qb false x=x:=rfl
attribute [congr] yy1
attribute [go_sem] kZ_eq kQ_eq kR_eq kA_eq kS_eq kI_eq kP_eq kC_eq kG_eq sepF sep2 sepV bne_self_eq_false inF inK inO insE insO ydw awDX awDn y6d y6e y6f y6g awDg y6h y2t
attribute [go_sem] yqd y6i y6j erV_t erV_f scV apG apG.n2E hgo yai ycm loud List.contains_cons List.contains_nil beq_self_eq_true
attribute [go_sem] AObj.cells.injEq Cs.ints.injEq Cs.bools.injEq Cs.lst.injEq AV.int.injEq AV.sl.injEq AV.ro.injEq AV.ptr.injEq AV.agg.injEq AV.tup.injEq AV.str.injEq AV.rp.injEq AV.fn.injEq Prod.mk.injEq List.cons.injEq Int.natCast_add Int.natCast_one Int.natCast_zero Int.natCast_mul Nat.succ_eq_add_one zG List.length_drop List.length_take
structure aT(x y:AV):Prop where
 out:∀(w:World) (M:Nat->Prop) (ρ:Nat->Addr) (D:Nat->Prop) (v:Value),VR w M ρ D v x->VR w M ρ D v y
theorem aT.refl(x:AV):aT x x:=⟨fun _ _ _ _ _ h=>h⟩
theorem aT.of{x y:AV}(h:x=y):aT x y:=h▸aT.refl x
theorem aT.nils{es:Nat}{c:Cs}(he:0<es)(hc:c.len=0):aT .nils (.ro es 0 c):=⟨fun w M ρ D v h=>by
 have e:=h.cd;subst e;exact .ro es 0 c none 0 (fun _=>undef) (by simp[hc]) (zA _) he (fun h=>by omega) (fun j hj=>by omega)⟩
theorem aT.agg{xs ys:List AV}(hl:xs.length=ys.length)(h:∀(i:Nat) (x y:AV),xs[i]?=some x->ys[i]?=some y->aT x y):aT (.agg xs) (.agg ys):=⟨fun w M ρ D v hv=>by
 obtain⟨vs,rfl,DG,hx⟩:=hv.bD;refine .agg vs ys (DG.trans hl) fun i v y hi hy=>?_;have aC:i<xs.length:=by
  have:=List.getElem?_eq_some_iff.1 hi;obtain⟨h1,_⟩:=this;omega
 exact(h i xs[i] y (zJ aC) hy).out w M ρ D v (hx i v _ hi (zJ aC))⟩
theorem aT.tup{xs ys:List AV}(hl:xs.length=ys.length)(h:∀(i:Nat) (x y:AV),xs[i]?=some x->ys[i]?=some y->aT x y):aT (.tup xs) (.tup ys):=⟨fun w M ρ D v hv=>by
 obtain⟨vs,rfl,DG,hx⟩:=hv.fV;refine .tup vs ys (DG.trans hl) fun i v y hi hy=>?_;have aC:i<xs.length:=by
  have:=List.getElem?_eq_some_iff.1 hi;obtain⟨h1,_⟩:=this;omega
 exact(h i xs[i] y (zJ aC) hy).out w M ρ D v (hx i v _ hi (zJ aC))⟩
inductive xH:List AV->List AV->Prop where
 |nil:xH [] []
 |cons {x y:AV} {xs ys:List AV}:aT x y->xH xs ys->xH (x::xs) (y::ys)
theorem xH.len{xs ys:List AV}(h:xH xs ys):xs.length=ys.length:=by
 induction h with
 |nil=>rfl
 |cons _ _ ih=>simp[ih]
theorem xH.get{xs ys:List AV}(h:xH xs ys):∀(i:Nat) (x y:AV),xs[i]?=some x->ys[i]?=some y->aT x y:=by
 induction h with
 |nil=>intro i x y h;cases h
 |cons h1 _ ih=>
  intro i x y hx hy;cases i with
  |zero=>simp only[List.getElem?_cons_zero,Option.some.injEq]at hx hy;subst hx hy;exact h1
  |succ i=>exact ih i x y (by simpa using hx) (by simpa using hy)
theorem aT.pK{xs ys:List AV}(h:xH xs ys):aT (.agg xs) (.agg ys):= .agg h.len h.get
theorem aT.xY{xs ys:List AV}(h:xH xs ys):aT (.tup xs) (.tup ys):= .tup h.len h.get
section
variable{P:Program}{f:Nat}{args:List AV}{r r':AV}
theorem Fn.arg(h:Fn P f args r){args':List AV}(ha:xH args' args):Fn P f args' r:=
 ⟨h.1,fun w Mx vs h1 h2 h3=>h.2 w Mx vs h1 (h2.trans ha.len) fun i v x hv hx=>by
  have aC:i<args'.length:=by
   have:=List.getElem?_eq_some_iff.1 hv;obtain⟨g1,_⟩:=this;omega
  exact(ha.get i args'[i] x (zJ aC) hx).out _ _ _ _ v (h3 i v _ hv (zJ aC))⟩
def retL(P:Program)(rs:List ResultVar)(r:AV)(e:Exit)(fr:Fr)(H:Hp):Prop:=
 (e= .ret\/e= .normal)/\match resL P fr H rs with
 |some (p,l)=>p/\dO H 6 (ye8 l)/\aT (snap H 6 (ye8 l)) r
 |none=>False
theorem Fn.av{fn:Func}{c:Code}(rs:List ResultVar)(hf:P.funcs[f]?=some fn)(hb:fn.body=some c)(BC:fn.results.toList=rs)(hn:(fn.name== "runtime.NumGoroutine")=false)(hl:args.length<=fn.ntmps/\fn.ntmps<=1000000)
  (h:oG P fn.ntmps c (frOf 0 args) [] (retL P rs r)):Fn P f args r:=by
 subst BC;refine⟨⟨fn,hf,by rw[hb];rfl,hn⟩,fun w Mx vs mT xw hv=>?_⟩
 have qD:aO w.heap.size ⟨w,fun _=>undef⟩ Mx 0 w ρ0 [] [] {tmps:= #[],defers:=[]}:=
  ⟨Below.refl _ _,zA _,mT.2,(fun id o h=>by cases h),(fun id o h=>by cases h),(fun id o _ _ h=>by cases h),fun t=> .any _,⟨rfl,fun _ hb=>mT.1.later hb⟩,by simp,by omega⟩
 have PM:MM Mx [] ρ0=Mx:=by
  funext x;apply propext;constructor
  ·rintro (g|⟨id,o,g,_⟩)
   ·exact g
   ·cases g
  ·exact Or.inl
 have GN:jy P f args [] [] (fun r' _ H'=>dO H' 6 r'/\aT (snap H' 6 r') r):=by
  refine⟨.inl ⟨fn,c,hf,hb,hn,hl,?_⟩⟩;rw[show frOf 0 args++lft []=frOf 0 args by simp[lft]];refine h.mono fun e fr H hq=>⟨hq.1,?_⟩;have p6:=hq.2;revert p6;cases resL P fr H fn.results.toList with
  |none=>exact fun h=>h
  |some q=>exact fun h=>h
 obtain⟨_,eW⟩:=Jw (P:=P) qD GN xw (fun i v x g1 g2=>by rw[PM];exact(hv i v x g1 g2).D0);refine eW.mono ?_;rintro e w' ⟨v,r',ρ',fr',H',rfl,⟨hp,hle⟩,hs,Bx⟩;exact⟨v,rfl,hs.below,hle.out _ _ _ _ v (II hs (My:=Mx) (ρ0:=ρ0) (fun _ h=>h) 6 v r' Bx hp)⟩
theorem Fn.ofN(h:xI P f args r):Fn P f args r:=
 ⟨h.1,fun w Mx vs h1 h2 h3=>(h.2 w Mx vs h1 h2 h3).mono fun _ _ ⟨v,e1,e2,e3⟩=>⟨v,e1,e2,e3.carry (zA _) (fun b _ hm=>⟨rfl,fun hM=>hm (h1.2 b hM)⟩) (fun _ hd=>hd.elim)⟩⟩
end
attribute [go_sem] retL
end Go.Proofs.YthohfoombimbeaaGreatDoor
