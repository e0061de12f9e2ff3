/- The author's own program logic: statements that draw their order; results told less exactly. -/
import Derived.Test.YtjpbeacamoijhaaGreatDoorGb
set_option linter.unusedSimpArgs false
set_option linter.unusedVariables false
namespace Go.Proofs.YtjpbeacamoijhaaGreatDoor
open Go Go.RowKit
section
variable {P:Program} {B:Nat} {w0:nN} {Mx:Nat->Prop} {N:Nat} {w:World} {ρ:Nat->Addr} {fr:Fr} {H:Hp} {a:Act}
theorem aK.GC (h:aK B w0 Mx N w ρ fr H a) {aQ:Nat} (hn:hget H aQ=none) {w1:nN} {w':World} {ρ':Nat->Addr} {N0:Nat} {a0:Act} {M0:Nat->Prop} {t:Nat} {l:List Int} (Es:w1.w=w) (k:aK w.heap.size w1 M0 N0 w' ρ' [] [(0, .cells t (.ints l))] a0):
  aK B w0 Mx N w' (aR ρ aQ (ρ' 0)) fr ((aQ, .cells t (.ints l))::H) a/\ ∀v es n,VR w' (MM M0 [(0, .cells t (.ints l))] ρ') ρ' (DD [(0, .cells t (.ints l))]) v (.sl es 0 0 n)->VR w' (MM Mx ((aQ, .cells t (.ints l))::H) (aR ρ aQ (ρ' 0))) (aR ρ aQ (ρ' 0)) (DD ((aQ, .cells t (.ints l))::H)) v (.sl es aQ 0 n):=by
 have e9:=k.below;rw [Es] at e9;have hblk:w.heap.size<=(ρ' 0).block:=(k.own 0 _ rfl rfl).1;have e0:aR ρ aQ (ρ' 0) aQ=ρ' 0:=by simp [aR]
 have e1: ∀i,i≠aQ->aR ρ aQ (ρ' 0) i=ρ i:=fun i hi=>by simp [aR,hi]
 have cs: ∀i o,hget ((aQ, .cells t (.ints l))::H) i=some o->(i=aQ/\o= .cells t (.ints l))\/(i≠aQ/\hget H i=some o):=fun i o ho=>by
  simp only [hget] at ho;by_cases e:aQ=i
  ·rw [zzJ e] at ho;exact .inl ⟨e.symm,(Option.some.inj ho).symm⟩
  ·rw [zzI e] at ho;exact .inr ⟨fun e'=>e e'.symm,ho⟩
 have aD: ∀i o,hget H i=some o->i≠aQ:=fun i o ho e=>by rw [e,hn] at ho;cases ho
 have mL: ∀i o,hget H i=some o->hget ((aQ, .cells t (.ints l))::H) i=some o:=fun i o ho=>by
  simp only [hget];rw [zzI (fun e=>aD i o ho e.symm)];exact ho
 have K0: ∀x,x<w.heap.size->MM Mx ((aQ, .cells t (.ints l))::H) (aR ρ aQ (ρ' 0)) x->MM Mx H ρ x:=fun x hx hm=>by
  rcases hm with g|⟨i,o,g1,g2,g3⟩
  ·exact .inl g
  ·rcases cs i o g1 with ⟨rfl,rfl⟩|⟨q1,q2⟩
   ·rw [e0] at g3;omega
   ·rw [e1 i q1] at g3;exact .inr ⟨i,o,q2,g2,g3⟩
 have hold: ∀{v:Value} {x:AV},VR w (MM Mx H ρ) ρ (DD H) v x->VR w' (MM Mx ((aQ, .cells t (.ints l))::H) (aR ρ aQ (ρ' 0))) (aR ρ aQ (ρ' 0)) (DD ((aQ, .cells t (.ints l))::H)) v x:=fun hv=>by
  refine hv.carry e9.size (fun x hx hm=>⟨e9.block x hx,fun g=>hm (K0 x hx g)⟩) (fun i hd=>?_);obtain ⟨o,ho⟩:=hd;exact ⟨⟨o,mL i o ho⟩,e1 i (aD i o ho),fun arr t ha=>⟨arr,(e9.block _ (iW ha)).trans ha,rfl⟩⟩
 have sf:=k.objs 0 _ rfl;obtain ⟨f1,arr,f2,f3,f4⟩:=sf;refine ⟨⟨h.below.trans (e9.mono h.hB),Nat.le_trans h.hB e9.size,fun x hx=>Nat.lt_of_lt_of_le (h.mx x hx) e9.size,fun i o g1 g2=>?_,fun i o g1=>?_,fun i o i' o' g1 g2 g3 g4 g5=>?_,fun t=>hold (h.frv t),h.defers,h.size⟩,fun v es n hv=>?_⟩
 ·rcases cs i o g1 with ⟨rfl,rfl⟩|⟨q1,q2⟩
  ·rw [e0];exact ⟨Nat.le_trans h.hB hblk,fun hx=>by have:=h.mx _ hx;omega⟩
  ·rw [e1 i q1];exact h.own i o q2 g2
 ·rcases cs i o g1 with ⟨rfl,rfl⟩|⟨q1,q2⟩
  ·exact ⟨by rw [e0];exact f1,arr,by rw [e0];exact f2,by rw [e0];exact f3,fun j hj=>let ⟨u,hu,hx⟩:=f4 j hj;⟨u,by rw [e0];exact hu,by obtain rfl:=VR.aq (show VR _ _ _ _ u (I (l.getD j 0)) from hx);exact .int _ _⟩⟩
  ·have hr:=h.objs i o q2;cases o with
   |gone=>trivial
   |cells t c=>
    obtain ⟨f1,arr,f2,f3,f4⟩:=hr;exact ⟨by rw [e1 i q1];exact f1,arr,by rw [e1 i q1];exact (e9.block _ (iW f2)).trans f2,by rw [e1 i q1];exact f3,fun j hj=>let ⟨u,hu,hx⟩:=f4 j hj;⟨u,by rw [e1 i q1];exact hu,hold hx⟩⟩
   |gmap t ck l=>
    obtain ⟨es,k1,k2,k3⟩:=hr;exact ⟨es,by rw [e1 i q1];exact (e9.block _ (iW k1)).trans k1,k2,fun j e q he hl=>let ⟨g1,g2,g3⟩:=k3 j e q he hl;⟨g1,g2,hold g3⟩⟩
   |iter mid s sn la=>
    obtain ⟨k1,k2,k3⟩:=hr;obtain ⟨om,Ah⟩:=k1;exact ⟨⟨om,mL mid om Ah⟩,by rw [e1 i q1];exact k2,by rw [e1 i q1,e1 mid (aD mid om Ah)];exact (e9.block _ (iW k3)).trans k3⟩
   |imap t l=>
    obtain ⟨k0,es,ck,k1,k2,k3⟩:=hr;exact ⟨k0,es,ck,by rw [e1 i q1];exact (e9.block _ (iW k1)).trans k1,k2,fun j e k x he hl=>let ⟨g1,g2,g3⟩:=k3 j e k x he hl;⟨g1,hold g2,g3⟩⟩
   |fmap t c=>
    obtain ⟨k0,es,ck,k1,k2⟩:=hr;exact ⟨k0,es,ck,by rw [e1 i q1];exact (e9.block _ (iW k1)).trans k1,k2⟩
 ·have fresh: ∀i o,hget H i=some o->o.live=true->(ρ i).block<w.heap.size:=fun i o g1 g2=>by
   exact h.oR _ (.inr ⟨i,o,g1,g2,rfl⟩)
  rcases cs i o g1 with ⟨rfl,rfl⟩|⟨q1,q2⟩
  ·rcases cs i' o' g3 with ⟨rfl,rfl⟩|⟨r1,r2⟩
   ·rfl
   ·rw [e0,e1 i' r1] at g5;have:=fresh i' o' r2 g4;omega
  ·rcases cs i' o' g3 with ⟨rfl,rfl⟩|⟨r1,r2⟩
   ·rw [e0,e1 i q1] at g5;have:=fresh i o q2 g2;omega
   ·rw [e1 i q1,e1 i' r1] at g5;exact h.inj i o i' o' q2 g2 r2 g4 g5
 ·cases hv with
  |sl _ _ _ _ cap hd hc arr t2 ad ha hb hr=>
   refine .sl es aQ 0 n cap ⟨.cells t (.ints l),by simp [hget]⟩ hc arr t2 ad ?_ ?_ ?_
   ·rw [e0];exact ha
   ·rw [e0];exact hb
   ·rw [e0];exact hr
theorem yuk (h:aK B w0 Mx N w ρ fr H a) {f:Nat} {xs:List AV} {aQ:Nat} {K:AV->AObj->Prop} (hc:Lp P f xs H aQ K) {vs:List Value} (hl:vs.length=xs.length)
  (hv: ∀(i:Nat) (v:Value) (x:AV),vs[i]?=some v->xs[i]?=some x->VR w (MM Mx H ρ) ρ (DD H) v x):
  pI P f/\Calls P f vs.toArray w fun e w'=> ∃v es n t l ρ' M0,e= .returned v/\K (.sl es aQ 0 n) (.cells t (.ints l))/\aK w.heap.size ⟨w,fun _=>undef⟩ M0 0 w' ρ' [] [(0, .cells t (.ints l))] {tmps:= #[],defers:=[]}/\VR w' (MM M0 [(0, .cells t (.ints l))] ρ') ρ' (DD [(0, .cells t (.ints l))]) v (.sl es 0 0 n):=by
 obtain ⟨es,n,t,l,sW,hk⟩:=hc;rcases sW with ⟨hp,iL,hfn⟩|⟨hs,iL,hfn⟩
 ·refine ⟨iL,(hfn w (MM Mx H ρ) vs ⟨h.tK,h.oR⟩ hl fun i v x h1 h2=>(hv i v x h1 h2).qu (List.all_eq_true.1 hp _ (zzN h2))).mono ?_⟩;rintro e w' ⟨v,ρ',rfl,bJ,hr⟩;exact ⟨v,es,n,t,l,ρ',_,rfl,hk,bJ,hr⟩
 ·have we: ∀(i:Nat) (v:Value) (x:AV),vs[i]?=some v->(xs.map (snap H 6))[i]?=some x->VR w (fun _=>False) ρ0 (fun _=>False) v x:=fun i v x h1 h2=>by
   simp only [zzO] at h2;obtain ⟨x',g1,rfl⟩:=Option.map_eq_some_iff.1 h2;exact JB h (fun _ h=>h.elim) 6 v x' (hv i v x' h1 g1) (hs _ (zzN g1))
  refine ⟨iL,(hfn w (fun _=>False) vs ⟨h.tK,fun _ h=>h.elim⟩ (by simpa using hl) we).mono ?_⟩;rintro e w' ⟨v,ρ',rfl,bJ,hr⟩;exact ⟨v,es,n,t,l,ρ',_,rfl,hk,bJ,hr⟩
end
theorem T9 {ops:Array Oper} {es:Nat->Ent}: ∀(d j:Nat) (fr:Fr),rI ops es j fr (d+1)=fput (rI ops es j fr d) (jK ops (j+d)) (es (j+d)).val
 |0,j,fr=>rfl
 |d+1,j,fr=>by
  have:=T9 (ops:=ops) (es:=es) d (j+1) (fput fr (jK ops j) (es j).val)
  simp only [rI] at this⊢;rw [this,show j+1+d=j+(d+1) by omega]
theorem S7 {base:Nat} {es:Nat->Ent}: ∀(d j:Nat) (H:Hp),hI base es j H (d+1)=(es (j+d)).eff (base+(j+d)) (hI base es j H d)
 |0,j,H=>rfl
 |d+1,j,H=>by
  have:=S7 (base:=base) (es:=es) d (j+1) ((es j).eff (base+j) H)
  simp only [hI] at this⊢;rw [this,show j+1+d=j+(d+1) by omega]
theorem Ft {ops:Array Oper} {es:Nat->Ent} (fr:Fr): ∀k,rI ops es 0 fr k=frS ops es fr (fun _=>true) k
 |0=>rfl
 |k+1=>by rw [T9,Ft fr k];simp [frS]
theorem EN {base:Nat} {es:Nat->Ent} (H:Hp): ∀k,hI base es 0 H k=hS base es H (fun _=>true) k
 |0=>rfl
 |k+1=>by rw [S7,EN H k];simp [hS]
def D5 (ops:Array Oper) (E:Nat->Bool):Prop:= ∀j,E j=true-> ∀i∈rL (ops.getD j default),E i=true
theorem S6 {ops:Array Oper}: ∀(l:List Oper) (cL:List (List Nat)),l=ops.toList.drop cL.length->(∀k i,i∈cL.getD k []-> ∀E,D5 ops E->(∀e∈rL (ops.getD k default),E e=true)->E i=true)->
  ∀k i,i∈(ancs l cL).getD k []-> ∀E,D5 ops E->(∀e∈rL (ops.getD k default),E e=true)->E i=true
 |[],cL,_,h=>h
 |o::l,cL,hl,h=>by
  simp only [ancs];have aD:cL.length<ops.size:=by
   have:=congrArg List.length hl;simp at this;omega
  have ho:o=ops.getD cL.length default:=by
   have:=congrArg (fun x=>x[0]?) hl
   simp [aD] at this;simpa [aD] using this
  refine S6 l _ ?_ ?_
  ·have:=congrArg List.tail hl
   simp only [List.tail_cons,List.tail_drop] at this;rw [this];simp
  ·intro k i hi E hE hk;by_cases ee:k<cL.length
   ·have e:(cL++[((rL o).flatMap fun i=>i::cL.getD i []).eraseDups]).getD k []=cL.getD k []:=by
     simp [List.getElem?_append_left ee]
    rw [e] at hi;exact h k i hi E hE hk
   ·by_cases P0:k=cL.length
    ·subst P0;have e:(cL++[((rL o).flatMap fun i=>i::cL.getD i []).eraseDups]).getD cL.length []=((rL o).flatMap fun i=>i::cL.getD i []).eraseDups:=by simp
     rw [e,List.mem_eraseDups,List.mem_flatMap] at hi;obtain ⟨x,hx,Pl⟩:=hi;rw [ho] at hx;have Y2:=hk x hx;rcases List.mem_cons.1 Pl with rfl|Pl
     ·exact Y2
     ·exact h x i Pl E hE (hE x Y2)
    ·have e:(cL++[((rL o).flatMap fun i=>i::cL.getD i []).eraseDups]).getD k []=[]:=by
      rw [zzB,zzP (by simp;omega)];rfl
     rw [e] at hi;cases hi
theorem LV {ops:Array Oper} {E:Nat->Bool} (hE:D5 ops E) {k i:Nat} (hi:((nj ops).getD k []).contains i=true) (hk: ∀e∈rL (ops.getD k default),E e=true):E i=true:=
 S6 ops.toList [] (by simp) (fun k i h=>by simp at h) k i (List.contains_iff_mem.1 hi) E hE hk
structure Rr (ops:Array Oper) (ex dl:List (List Nat)):Prop where
 slot: ∀i j,i<ops.size->j<ops.size->i≠j->((nj ops).getD j []).contains i=true\/((nj ops).getD i []).contains j=true\/ ∀d,jK ops i=some d->(ex.getD j []).contains d=true
 new: ∀i j,i<ops.size->j<ops.size->i<j->((nj ops).getD j []).contains i=true\/(dl.getD j []).contains i=true
 lo: ∀i j,i<ops.size->j<ops.size->i≠j->yc4 (ops.getD i default).op=false->loud (ops.getD i default).op=false->loud (ops.getD j default).op=true->((nj ops).getD j []).contains i=true
 lolo: ∀i j,i<ops.size->j<ops.size->i≠j->loud (ops.getD i default).op=true->loud (ops.getD j default).op=true->((nj ops).getD j []).contains i=true\/((nj ops).getD i []).contains j=true\/(ye0 (ops.getD i default).op=true/\ye0 (ops.getD j default).op=true)\/yH ops (ops.getD i default).op (ops.getD j default).op=true
 ins: ∀i j,i<ops.size->j<ops.size->i≠j->ye0 (ops.getD i default).op=true->loud (ops.getD j default).op=true->ye0 (ops.getD j default).op=true
 same: ∀i j,i<ops.size->j<ops.size->i≠j-> ∀d,jK ops i=some d->jK ops j=some d->((nj ops).getD j []).contains i=true\/((nj ops).getD i []).contains j=true
 lt: ∀i j,i<ops.size->j<ops.size->((nj ops).getD j []).contains i=true->i<j
 elt: ∀j,j<ops.size-> ∀e∈rL (ops.getD j default),e<j
theorem Rt {ops:Array Oper} {ex dl:List (List Nat)} (h:Ic ops ex dl=true):Rr ops ex dl:=by
 have h0: ∀i j,i<ops.size->j<ops.size->_:=fun i j hi hj=>List.all_eq_true.1 (List.all_eq_true.1 h j (by simpa using hj)) i (by simpa using hi);simp only [zzS,Bool.or_eq_true,beq_iff_eq,Bool.not_eq_true',decide_eq_true_eq,decide_eq_false_iff_not,bne_iff_ne,Ic.before0,List.all_eq_true] at h0
 refine ⟨fun i j hi hj aA=>?_,fun i j hi hj aD=>?_,fun i j hi hj aA h1 h2 h3=>?_,fun i j hi hj aA h1 h2=>?_,fun i j hi hj aA h1 h2=>?_,fun i j hi hj aA d h1 h2=>?_,fun i j hi hj h1=>?_,fun j hj e he=>?_⟩
 ·have:=h0 i j hi hj
  rcases this.1.1 with g|g
  ·exact absurd g aA
  ·rcases g.1.1.1.1.1 with (g1|g1)|g1
   ·exact .inl g1
   ·exact .inr (.inl g1)
   ·refine .inr (.inr fun d hd=>?_);unfold jK at hd;rw [hd] at g1;exact g1
 ·have:=h0 i j hi hj
  rcases this.1.1 with g|g
  ·omega
  ·rcases g.1.1.1.1.2 with (g1|g1)|g1
   ·exact .inl g1
   ·omega
   ·exact .inr g1
 ·have:=h0 i j hi hj
  rcases this.1.1 with g|g
  ·exact absurd g aA
  ·rcases g.1.1.1.2 with ((g1|g1)|g1)|g1
   ·rw [h1] at g1;cases g1
   ·rw [h3] at g1;cases g1
   ·exact g1
   ·rw [h2] at g1;cases g1
 ·have:=h0 i j hi hj
  rcases this.1.1 with g|g
  ·exact absurd g aA
  ·rcases g.1.1.2 with ((((g1|g1)|g1)|g1)|g1)|g1
   ·rw [h1] at g1;cases g1
   ·rw [h2] at g1;cases g1
   ·exact .inl g1
   ·exact .inr (.inl g1)
   ·exact .inr (.inr (.inl g1))
   ·exact .inr (.inr (.inr g1))
 ·have:=h0 i j hi hj
  rcases this.1.1 with g|g
  ·exact absurd g aA
  ·rcases g.1.2 with (g1|g1)|g1
   ·rw [h1] at g1;cases g1
   ·rw [h2] at g1;cases g1
   ·exact g1
 ·have:=h0 i j hi hj
  unfold jK at h1 h2;rcases this.1.1 with g|g
  ·exact absurd g aA
  ·rcases g.2 with ((g1|g1)|g1)|g1
   ·exact .inl g1
   ·exact .inr g1
   ·rw [h1,h2] at g1;exact absurd rfl g1
   ·rw [h1] at g1;cases g1
 ·have:=h0 i j hi hj
  rcases this.1.2 with g|g
  ·rw [h1] at g;cases g
  ·exact g
 ·exact (h0 j j hj hj).2 e he
def cntE (E:Nat->Bool):Nat->Nat
 |0=>0
 |k+1=>cntE E k+if E k then 1 else 0
theorem S5 (E:Nat->Bool): ∀k,cntE E k<=k
 |0=>zzA _
 |k+1=>by have:=S5 E k;simp only [cntE];split<;>omega
theorem T8 {E:Nat->Bool}: ∀k,cntE E k=k-> ∀i,i<k->E i=true
 |0,_,i,hi=>by omega
 |k+1,h,i,hi=>by
  have hk:=S5 E k;simp only [cntE] at h;by_cases hE:E k=true
  ·rw [zzJ hE] at h;by_cases e:i=k
   ·rw [e];exact hE
   ·exact T8 k (by omega) i (by omega)
  ·rw [zzI hE] at h;omega
theorem T7 {E E':Nat->Bool} {j:Nat} (h0:E j=false) (h1:E' j=true) (h: ∀i,i≠j->E' i=E i): ∀k,cntE E' k=cntE E k+if j<k then 1 else 0
 |0=>by simp [cntE]
 |k+1=>by
  have ih:=T7 h0 h1 h k;simp only [cntE,ih];by_cases e:k=j
  ·subst e;simp [h0,h1]
  ·rw [h k e];generalize (if E k=true then 1 else 0)=z;by_cases xG:j<k
   ·rw [zzJ xG,zzJ (show j<k+1 by omega)];omega
   ·rw [zzI xG,zzI (show¬j<k+1 by omega)];omega
theorem A7 (n k:Nat):(Array.replicate n false).getD k false=false:=by by_cases hk:k<n<;>simp [hk]
section
variable {P:Program} {B:Nat} {w0:nN} {Mx:Nat->Prop} {N:Nat} {ops:Array Oper} {base:Nat} {ex dl:List (List Nat)} {es:Nat->Ent} {fr0:Fr} {H0:Hp}
theorem y7u {E E':Nat->Bool} {j n:Nat} (hj:j<n) (h1:E' j=true) (h: ∀i,i≠j->E' i=E i) (sv: ∀i,j<i->i<n->E i=true-> ∀d,jK ops i=some d->jK ops j≠some d) (t:Nat):
  fget (frS ops es fr0 E' n) t=fget (fput (frS ops es fr0 E n) (jK ops j) (es j).val) t:=by
 by_cases hd:jK ops j=some t
 ·have e2:fget (fput (frS ops es fr0 E n) (jK ops j) (es j).val) t=(es j).val:=by rw [hd];simp [fput,fget]
  rw [e2]
  have: ∀k,j<k->k<=n->fget (frS ops es fr0 E' k) t=(es j).val:=by
   intro k
   induction k with
   |zero=>intro h;omega
   |succ k ih=>
    intro hk C4;simp only [frS];by_cases e:k=j
    ·subst e;rw [zzJ h1,hd];simp [fput,fget]
    ·have GD:=ih (by omega) (by omega)
     split
     ·rename_i hE
      rw [h k e] at hE;have aA:=sv k (by omega) (by omega) hE;cases sy:jK ops k with
      |none=>exact GD
      |some d=>
       have:d≠t:=fun e'=>aA d sy (by rw [hd,e'])
       simp only [fput,fget,this,if_false];exact GD
     ·exact GD
  exact this n hj (zzA _)
 ·have e2:fget (fput (frS ops es fr0 E n) (jK ops j) (es j).val) t=fget (frS ops es fr0 E n) t:=by
   cases hk:jK ops j with
   |none=>rfl
   |some d=>simp only [fput,fget];rw [zzI (fun e=>hd (by rw [hk,e]))]
  rw [e2];exact J2 n fun i _ hi=>h i (fun e=>hd (by rw [<-e];exact hi))
theorem S4 {H:Hp} {t:Nat} {m k v:AV} {p:Prop} {id:Nat} {n x:Int} (h:inF P H t m k v=some (p,id,n,x)) (hp:p):
  ∃kt et,tk P t= .map kt et/\tk P kt= .int .i64/\m= .mp id/\k= .int .i64 n/\v= .int .i64 x/\ ∃t' g,hget H id=some (.fmap t' (.ints g))/\g n=none:=by
 unfold inF at h
 split at h
 ·rename_i kt et fm
  unfold inK at h
  split at h
  ·rename_i ee
   unfold inO at h
   split at h
   ·rename_i t' g hg
    cases h;exact ⟨kt,et,fm,ee,rfl,rfl,rfl,t',g,hg,hp⟩
   ·cases h
  ·cases h
 ·cases h
def kdO:Option AObj->Option Nat
 |some (.fmap t (.ints _))=>some t
 |_=>none
def zd (H:Hp) (id:Nat):Option Nat:=kdO (hget H id)
def Lh (n:Int):Option AObj->Option Int
 |some (.fmap _ (.ints g))=>g n
 |_=>none
def Dk (H:Hp) (id:Nat) (n:Int):Option Int:=Lh n (hget H id)
theorem y4k {H:Hp} {id t:Nat} (h:zd H id=some t): ∃g,hget H id=some (.fmap t (.ints g)):=by
 unfold zd kdO at h
 split at h
 ·rename_i t' g hg;cases h;exact ⟨g,hg⟩
 ·cases h
theorem zL (H:Hp) (bY:Nat) (n' x':Int) (i:Nat):hget (insE H bY n' x') i=if i=bY then (match hget H i with|some (.fmap t (.ints g))=>some (.fmap t (.ints (updI g n' x')))|q=>q) else hget H i:=by
 unfold insE insO;by_cases e:i=bY
 ·subst e;rw [zzJ rfl]
  split
  ·rename_i t g hg;rw [tb hg,hg]
  ·rename_i eJ
   split
   ·rename_i t g hg;exact absurd hg (eJ t g)
   ·rfl
 ·rw [zzI e]
  split
  ·rw [kk (Ne.symm e)]
  ·rfl
theorem Mu (H:Hp) (bY:Nat) (n' x':Int) (id:Nat):zd (insE H bY n' x') id=zd H id:=by
 unfold zd;rw [zL]
 split
 ·split
  ·rename_i t g hg;rw [hg];rfl
  ·rfl
 ·rfl
theorem y4l {H:Hp} {id t:Nat} {g:Int->Option Int} {n x:Int} (h:hget H id=some (.fmap t (.ints g))):Dk (insE H id n x) id n=some x:=by
 unfold Dk;rw [zL,zzJ rfl,h];simp [Lh,updI]
theorem y7v {H:Hp} {id bY:Nat} {n n' x':Int} (h:(Dk H id n).isSome=true):(Dk (insE H bY n' x') id n).isSome=true:=by
 unfold Dk at h⊢;rw [zL]
 split
 ·split
  ·rename_i t g hg
   rw [hg] at h;simp only [Lh,updI] at h⊢
   split
   ·rfl
   ·exact h
  ·exact h
 ·exact h
theorem Zw {H1 H2:Hp} {id bY:Nat} {n n' x x':Int} (h: ∀i,hget H1 i=hget (insE H2 id n x) i) (hd:bY≠id\/n'≠n) (i:Nat):hget (insE H1 bY n' x') i=hget (insE (insE H2 bY n' x') id n x) i:=by
 rw [zL H1,zL (insE H2 bY n' x'),zL H2 bY n' x',h i,zL H2];by_cases e1:i=id
 ·by_cases e2:i=bY
  ·have hn:n'≠n:=by rcases hd with g|g<;>first|exact g|(exfalso;exact g (by omega))
   simp only [zzJ e1,zzJ e2];cases hq:hget H2 i with
   |none=>rfl
   |some ob=>
    cases ob with
    |fmap t c=>
     cases c with
     |ints g=>
      have:updI (updI g n x) n' x'=updI (updI g n' x') n x:=by
       funext q;simp only [updI];by_cases q1:q=n'
       ·have q2:q≠n:=fun e=>hn (q1.symm.trans e);rw [zzJ q1,zzI q2,zzJ q1]
       ·rw [zzI q1];by_cases q2:q=n
        ·rw [zzJ q2,zzJ q2]
        ·rw [zzI q2,zzI q2,zzI q1]
      simp only [this]
     |bools g=>rfl
     |pairs g=>rfl
    |_=>rfl
  ·simp only [zzJ e1,zzI e2]
 ·by_cases e2:i=bY
  ·simp only [zzI e1,zzJ e2]
  ·simp only [zzI e1,zzI e2]
theorem A6 (H:Hp) (id:Nat) (ob:AObj) (i:Nat):hget (hset H id ob) i=if id=i then (hget H i).map (fun _=>ob) else hget H i:=by
 by_cases e:id=i
 ·subst e;rw [zzJ rfl]
  induction H with
  |nil=>rfl
  |cons q r ih=>
   obtain ⟨k,o⟩:=q;simp only [hset,hget];by_cases e:k=id
   ·simp [e,hget]
   ·simp only [e,if_false,hget];exact ih
 ·rw [zzI e,kk e]
theorem Zv (e:Ent) (aQ:Nat) {H1 H2:Hp} {id:Nat} (h:hget H1 id=hget H2 id):hget (e.eff aQ H1) id=hget (e.eff aQ H2) id:=by
 cases e with
 |skip=>exact h
 |quiet r=>exact h
 |alloc r ob=>simp only [Ent.eff,hget];rw [h]
 |store i ob=>simp only [Ent.eff];rw [A6,A6,h]
 |app r g ob=>
  simp only [Ent.eff,hget]
  split
  ·rfl
  ·cases g with
   |none=>exact h
   |some i=>simp only [hgo];rw [A6,A6,h]
 |ins i n x=>simp only [Ent.eff];rw [zL,zL,h]
theorem y7w {ops:Array Oper} {es:Nat->Ent} {fr0:Fr} {d:Nat} (h:wS ops d=true) {E:Nat->Bool}: ∀k,k<=ops.size->fget (frS ops es fr0 E k) d=fget fr0 d:=by
 intro k
 induction k with
 |zero=>intro _;rfl
 |succ k ih=>
  intro hk;have dC:=ih (by omega);simp only [frS]
  split
  ·have aA:jK ops k≠some d:=by
    unfold wS at h
    have:=List.all_eq_true.1 h (ops.getD k default) (by
     have:ops.getD k default=ops[k]'(by omega):=by simp [show k<ops.size by omega]
     rw [this];simp)
    simpa [jK] using this
   cases hd:jK ops k with
   |none=>simp only [fput];exact dC
   |some q=>
    simp only [fput,fget];rw [zzI (fun e=>aA (by rw [hd,e]))];exact dC
  ·exact dC
theorem S3 {ops:Array Oper} {es:Nat->Ent} {fr0:Fr} {i t a id:Nat} {x y:Operand} {z:AV} {p:Prop} {ob:AObj} {H:Hp} {l:List Nat} {op:Op} (ho:op= .store t x y) (ha:stP op=some a) (hu:wS ops a=true) (aZ:stF P H t (evA (cz l (frS ops es fr0 (fun _=>true) i)) x) z=some (p,id,ob)) (hi:i<=ops.size:=by omega): ∃off,fget fr0 a= .ptr id off:=by
 subst ho;cases x with
 |tmp d=>
  simp only [stP,Option.some.injEq] at ha;subst ha;simp only [evA] at aZ
  split at aZ
  ·rw [M5] at aZ
   split at aZ
   ·simp [stF] at aZ
   ·rw [y7w hu i hi] at aZ;unfold stF at aZ
    split at aZ
    ·rename_i bY off hq
     split at aZ
     ·split at aZ
      ·split at aZ
       ·cases aZ;exact ⟨off,hq⟩
       ·cases aZ
      ·cases aZ
     ·cases aZ
    ·cases aZ
  ·simp [stF] at aZ
 |_=>simp [stP] at ha
theorem Zu {H1 H2:Hp} {t:Nat} {x y:AV} {p:Prop} {id:Nat} {ob:AObj} (h:stF P H2 t x y=some (p,id,ob)) (e:hget H1 id=hget H2 id):stF P H1 t x y=stF P H2 t x y:=by
 unfold stF at h⊢;cases x with
 |ptr i off=>
  simp only at h⊢
  have:i=id:=by
   split at h
   ·split at h
    ·split at h
     ·cases h;rfl
     ·cases h
    ·cases h
   ·cases h
  subst this;rw [e]
 |_=>rfl
theorem Zt (hc:Rr ops ex dl) (xn: ∀i j a b,i<ops.size->j<ops.size->i≠j->((nj ops).getD j []).contains i=false->((nj ops).getD i []).contains j=false->stP (ops.getD i default).op=some a->stP (ops.getD j default).op=some b->wS ops a=true->wS ops b=true->a≠b->sep2 fr0 a b=true) (hb: ∀i,base<=i->hget H0 i=none) (kY: ∀j,j<ops.size->es j= .skip\/yG P ops base ex dl j (ops.getD j default) (frS ops es fr0 (fun _=>true) j) (hS base es H0 (fun _=>true) j) (es j))
  {E:Nat->Bool} (hE:D5 ops E) (hEn: ∀i,E i=true->i<ops.size) {j:Nat} (hj:j<ops.size) (qW:dok (jK ops j) N=true) (lf:yG P ops base ex dl j (ops.getD j default) (frS ops es fr0 (fun _=>true) j) (hS base es H0 (fun _=>true) j) (es j)) (uO:E j=false) (hr: ∀e∈rL (ops.getD j default),E e=true) {w:World} {ρ:Nat->Addr} {a:Act}
  (hs:aK B w0 Mx N w ρ (frS ops es fr0 E ops.size) (hS base es H0 E ops.size) a) {E':Nat->Bool} (h1:E' j=true) (h2: ∀i,i≠j->E' i=E i) (Q:Exit->Act->World->Prop) (K:Act->World->Prop)
  (hK: ∀a' w' ρ',aK B w0 Mx N w' ρ' (frS ops es fr0 E' ops.size) (hS base es H0 E' ops.size) a'->K a' w'):wpOp P ops Q j K a w:=by
 have hoj:ops[j]?=some (ops.getD j default):=by simp [hj]
 have kq:(ops.getD j default).dst=jK ops j:=rfl;generalize oh:ops.getD j default=o at*;have oq: ∀i,((nj ops).getD j []).contains i=true->E i=true:=fun i hi=>LV hE hi (by rw [oh];exact hr);have pb: ∀i,((nj ops).getD i []).contains j=true->E i=false:=fun i hi=>by
  cases rH:E i with
  |false=>rfl
  |true=>have:=LV hE hi (hE i rH);rw [uO] at this;cases this
 have sv: ∀i,j<i->i<ops.size->E i=true-> ∀d,jK ops i=some d->jK ops j≠some d:=fun i hji dA rH d EE C9=>by
  rcases hc.same i j dA hj (by omega) d EE C9 with g|g
  ·have:=hc.lt i j dA hj g;omega
  ·rw [pb i g] at rH;cases rH
 have pP:=y7u (es:=es) (fr0:=fr0) hj h1 h2 sv;have Qg: ∀t,fget (cz (cK ex j) (frS ops es fr0 (fun _=>true) j)) t= .any\/fget (cz (cK ex j) (frS ops es fr0 (fun _=>true) j)) t=fget (frS ops es fr0 E ops.size) t:=fun t=>by
  rw [M5];by_cases hx:(cK ex j).contains t=true
  ·rw [zzJ hx];exact .inl rfl
  ·rw [zzI hx];right;rw [<-Ru (ops:=ops) (es:=es) (fr0:=fr0) (j:=j) (E:=fun i=>decide (i<j)) (fun _=>rfl) ops.size (by omega)];refine J2 ops.size fun i hi hd=>?_;by_cases e:i=j
   ·subst e;simp [uO]
   ·rcases hc.slot i j hi hj e with g|g|g
    ·have:=hc.lt i j hi hj g;simp [this,oq i g]
    ·have:=hc.lt j i hj hi g;simp [show¬i<j by omega,pb i g]
    ·exact absurd (g t hd) hx
 have pL:=hs.F3 Qg;have rW:BV ops o (cz (cK ex j) (frS ops es fr0 (fun _=>true) j))->Region.wanted o (yielded ops a.tmps)=true:=fun hw=>by
  rcases hw with hg|⟨g,b,hg,hv⟩
  ·simp [Region.wanted,hg]
  ·simp [Region.wanted,hg,Kh pL hv]
 unfold wpOp;rw [hoj];simp only;have Bv:yc4 o.op=false->loud o.op=false->(∀i,E i=true->(es i).vm=false)/\ ∀i,i<j->(es i).vm=false:=fun mM hl=>by
  have key: ∀i,i<ops.size->(es i).vm=true->((nj ops).getD i []).contains j=true/\i≠j:=fun i hi he=>by
   have dm:=kY i hi;have sX:loud (ops.getD i default).op=true:=by
    cases hk:es i with
    |store id ob=>replace dm:=dm.resolve_left (by rw [hk];intro h;cases h);rw [hk] at dm;exact dm.2.2.1
    |app r g ob=>replace dm:=dm.resolve_left (by rw [hk];intro h;cases h);rw [hk] at dm;exact dm.2.2.1
    |ins id n x=>replace dm:=dm.resolve_left (by rw [hk];intro h;cases h);rw [hk] at dm;exact dm.2.2.1
    |_=>rw [hk] at he;cases he
   have aA:i≠j:=fun e=>by subst e;rw [oh,hl] at sX;cases sX
   exact ⟨hc.lo j i hj hi (Ne.symm aA) (by rw [oh];exact mM) (by rw [oh];exact hl) sX,aA⟩
  refine ⟨fun i rH=>?_,fun i kB=>?_⟩
  ·cases he:(es i).vm with
   |false=>rfl
   |true=>have:=pb i (key i (hEn i rH) he).1;rw [rH] at this;cases this
  ·cases he:(es i).vm with
   |false=>rfl
   |true=>have:=hc.lt j i hj (by omega) (key i (by omega) he).1;omega
 have G8:loud o.op=true->ye0 o.op=false->stP o.op=none->hS base es H0 E ops.size=hS base es H0 (fun _=>true) j/\hS base es H0 E' ops.size=(es j).eff (base+j) (hS base es H0 (fun _=>true) j):=fun hl Ez Ex=>by
  have key: ∀i,i<ops.size->i≠j->(∀H,(es i).eff (base+i) H=H)\/(E i=true/\i<j)\/(E i=false/\j<i):=fun i hi e=>by
   have dm:=kY i hi;cases hk:es i with
   |skip=>left;intro H;rfl
   |quiet r=>left;intro H;rfl
   |alloc r rU=>
    replace dm:=dm.resolve_left (by rw [hk];intro h;cases h);rw [hk] at dm
    have:=hc.lo i j hi hj e dm.2.1 dm.2.2.1 (by rw [oh];exact hl)
    exact .inr (.inl ⟨oq i this,hc.lt i j hi hj this⟩)
   |store bY rU=>
    replace dm:=dm.resolve_left (by rw [hk];intro h;cases h);rw [hk] at dm;rcases hc.lolo i j hi hj e dm.2.2.1 (by rw [oh];exact hl) with g|g|g|g
    ·exact .inr (.inl ⟨oq i g,hc.lt i j hi hj g⟩)
    ·exact .inr (.inr ⟨pb i g,hc.lt j i hj hi g⟩)
    ·rw [oh,Ez] at g;cases g.2
    ·unfold yH at g;rw [oh,Ex] at g;unfold AX at g
     split at g
     ·rename_i h';cases h'
     ·cases g
   |app r g' rU=>
    replace dm:=dm.resolve_left (by rw [hk];intro h;cases h);rw [hk] at dm;rcases hc.lolo i j hi hj e dm.2.2.1 (by rw [oh];exact hl) with g|g|g|g
    ·exact .inr (.inl ⟨oq i g,hc.lt i j hi hj g⟩)
    ·exact .inr (.inr ⟨pb i g,hc.lt j i hj hi g⟩)
    ·rw [oh,Ez] at g;cases g.2
    ·unfold yH at g;rw [oh,Ex] at g;unfold AX at g
     split at g
     ·rename_i h';cases h'
     ·cases g
   |ins bY n' x'=>
    replace dm:=dm.resolve_left (by rw [hk];intro h;cases h);rw [hk] at dm;rcases hc.lolo i j hi hj e dm.2.2.1 (by rw [oh];exact hl) with g|g|g|g
    ·exact .inr (.inl ⟨oq i g,hc.lt i j hi hj g⟩)
    ·exact .inr (.inr ⟨pb i g,hc.lt j i hj hi g⟩)
    ·rw [oh,Ez] at g;cases g.2
    ·unfold yH at g;rw [oh,Ex] at g;unfold AX at g
     split at g
     ·rename_i h';cases h'
     ·cases g
  refine ⟨?_,?_⟩
  ·rw [<-Ln (base:=base) (es:=es) (H0:=H0) (j:=j) (E:=fun i=>decide (i<j)) (fun _=>rfl) ops.size (by omega)];refine Ec ops.size fun i hi=>?_;by_cases e:i=j
   ·subst e;right;simp [uO]
   ·rcases key i hi e with g|⟨g1,g2⟩|⟨g1,g2⟩
    ·exact .inl g
    ·right;simp [g1,g2]
    ·right;simp [g1,show¬i<j by omega]
  ·have e1:hS base es H0 (fun _=>true) (j+1)=(es j).eff (base+j) (hS base es H0 (fun _=>true) j):=by simp [hS]
   rw [<-e1,<-Ln (base:=base) (es:=es) (H0:=H0) (j:=j+1) (E:=fun i=>decide (i<j+1)) (fun _=>rfl) ops.size (by omega)];refine Ec ops.size fun i hi=>?_;by_cases e:i=j
   ·subst e;right;simp [h1]
   ·rw [h2 i e];rcases key i hi e with g|⟨g1,g2⟩|⟨g1,g2⟩
    ·exact .inl g
    ·right;simp [g1,show i<j+1 by omega]
    ·right;simp [g1,show¬i<j+1 by omega]
 cases ki:es j with
 |skip=>
  rw [ki] at lf;obtain ⟨g,b,hg,hv⟩:=lf;have hw: ¬Region.wanted o (yielded ops a.tmps)=true:=by
   rcases hv with hv|hv
   ·have hy:=Kh pL hv;simp [Region.wanted,hg,hy]
   ·have hy:=NG pL hv;simp [Region.wanted,hg,hy]
  rw [zzI hw];refine hK _ _ ρ ((hs.put (d:=o.dst) (by rw [kq];exact qW) (.tup [] [] rfl (fun i v x h=>by simp at h))).congr (fun t=>by rw [pP t,kq,ki];rfl) (fun i=>?_));rw [Ec (E:=E') (E':=E) ops.size fun i _=>by
   by_cases e:i=j
   ·left;subst e;intro H;rw [ki];rfl
   ·right;exact h2 i e]
 |quiet r=>
  rw [ki] at lf;obtain ⟨hw,rE,hq⟩:=lf;have Aq: ∀s d x,o.op= .convert s d x-> ∃e,P.underlying s=some e:=fun s d x ho=>by
   rw [ho] at rE;simp only [cvOk] at rE;cases hu:P.underlying s with
   |some e=>exact ⟨e,rfl⟩
   |none=>simp [tk,hu] at rE
  have hHE:hS base es H0 E' ops.size=hS base es H0 E ops.size:=Ec ops.size fun i _=>by
   by_cases e:i=j
   ·left;subst e;intro H;rw [ki];rfl
   ·right;exact h2 i e
  have qT: ∀(w':World) (v:Value),aK B w0 Mx N w' ρ (frS ops es fr0 E ops.size) (hS base es H0 E ops.size) a->VR w' (MM Mx (hS base es H0 E ops.size) ρ) ρ (DD (hS base es H0 E ops.size)) v r->K (a.put o.dst v) w':=fun w' v bJ hv=>
   hK _ _ ρ ((bJ.put (d:=o.dst) (by rw [kq];exact qW) hv).congr (fun t=>by rw [pP t,kq,ki];rfl) (fun i=>by rw [hHE]))
  rw [zzJ (rW hw)];left;rcases hq with ⟨mM,p,uG,hp⟩|⟨mM,hl,PE,hq⟩
  ·rw [Z2 (H':=hS base es H0 E ops.size) mM] at uG;obtain ⟨v,bd,hv⟩:=NF (P:=P) pL.objs pL.ev Aq uG hp;unfold Oper.wp;rw [bd];exact qT w v hs hv
  ·obtain ⟨En,O3⟩:=Bv mM hl;have aN: ∀i ob,hget (yav (ff base dl j) (hS base es H0 (fun _=>true) j)) i=some ob->hget (hS base es H0 E ops.size) i=some ob:=fun i ob hi=>by
    rw [U8] at hi
    split at hi
    ·cases hi
    ·rename_i hnd
     rw [AW hb j (fun i hi _=>O3 i hi)] at hi;rw [AW hb ops.size (fun i _ rH=>En i rH)]
     split at hi
     ·rename_i hcnd
      have dA:E (i-base)=true:=by
       rcases hc.new (i-base) j (by omega) hj hcnd.2.1 with g|g
       ·exact oq _ g
       ·exfalso;apply hnd;rw [List.contains_iff_mem];exact List.mem_map.2 ⟨i-base,List.contains_iff_mem.1 g,by omega⟩
      rw [zzJ ⟨hcnd.1,by omega,dA,hcnd.2.2.2⟩];exact hi
     ·rename_i hcnd
      by_cases hib:base<=i
      ·rw [hb i hib] at hi;cases hi
      ·rw [zzI (fun h=>hib h.1)];exact hi
   obtain ⟨My,K1,Ae⟩:=hs.sub aN (fun i ob hi=>List.all_eq_true.1 PE _ (Na hi)) (fr':=pR (yav (ff base dl j) (hS base es H0 (fun _=>true) j)) (cz (cK ex j) (frS ops es fr0 (fun _=>true) j))) (fun t=>by
    rcases Ua (yav (ff base dl j) (hS base es H0 (fun _=>true) j)) (cz (cK ex j) (frS ops es fr0 (fun _=>true) j)) t with g|⟨g1,g2⟩
    ·exact .inl g
    ·rcases Qg t with g3|g3
     ·left;rw [g1,g3]
     ·exact .inr ⟨by rw [g1,g3],g2⟩)
   have wx: ∀i,DD (yav (ff base dl j) (hS base es H0 (fun _=>true) j)) i->DD (hS base es H0 E ops.size) i:=fun i ⟨q,hq⟩=>⟨q,aN i q hq⟩
   have mL: ∀{w':World} {v:Value},VR w' (MM My (yav (ff base dl j) (hS base es H0 (fun _=>true) j)) ρ) ρ (DD (yav (ff base dl j) (hS base es H0 (fun _=>true) j))) v r->VR w' (MM Mx (hS base es H0 E ops.size) ρ) ρ (DD (hS base es H0 E ops.size)) v r:=fun hv=>by
    rw [K1] at hv;exact hv.carry (zzA _) (fun b _ hm=>⟨rfl,hm⟩) (fun k hd=>⟨wx k hd,rfl,fun arr t ha=>⟨arr,ha,rfl⟩⟩)
   rcases hq with ⟨p,uG,hp⟩|⟨f,args,ts,g,cap,ho,hf,pf⟩
   ·obtain ⟨v,bd,hv⟩:=NF (P:=P) Ae.objs Ae.ev Aq uG hp;unfold Oper.wp;rw [bd];exact qT w v hs (mL hv)
   ·obtain ⟨vs,ef,uE,hx⟩:=(hf▸Ae.ev f).eO;obtain ⟨iL,fy⟩:=Vr (P:=P) Ae pf (vs:=args.toList.map a.eval++vs) (by simp [uE]) (fun i v x g1 g2=>by
     by_cases hi:i<args.toList.length
     ·rw [List.getElem?_append_left (by simpa using hi),zzO] at g1 g2;rw [zzH hi] at g1 g2;cases g1;cases g2;exact Ae.ev _
     ·rw [List.getElem?_append_right (by simpa using hi)] at g1 g2;simp only [List.length_map] at g1 g2;exact hx _ v x g1 g2)
    have e1:(args.map a.eval++vs.toArray)=(args.toList.map a.eval++vs).toArray:=by obtain ⟨l⟩:=args;simp
    have bd:(execOp a.eval o).run P w= .ok (.enter g (args.toList.map a.eval++vs).toArray) w:=by
     simp only [execOp,ho,resolve,ef];have h3:(#[]++Array.map a.eval args++vs.toArray)=(args.toList.map a.eval++vs).toArray:=by rw [Array.empty_append];exact e1
     simp only [Deferred.ofValue,invoke,Sem.run_bind,Sem.run_pure,Result.andThen_ok,h3];exact NN iL _
    unfold Oper.wp;rw [bd];refine fy.mono ?_;rintro e w' ⟨v,r',rfl,rfl,_,hv,tC⟩;exact qT w' v (hs.later tC) (mL hv)
 |alloc r ob=>
  rw [ki] at lf;obtain ⟨hw,mM,hl,sW⟩:=lf;obtain ⟨En,O3⟩:=Bv mM hl;have oZ:hget (hS base es H0 E ops.size) (base+j)=none:=by
   rw [AW hb ops.size (fun i _ rH=>En i rH),zzI (fun h=>by rw [Nat.add_sub_cancel_left,uO] at h;cases h.2.2.1)];exact hb _ (by omega)
  have qT: ∀(w':World) (v:Value) (ρ2:Nat->Addr),aK B w0 Mx N w' ρ2 (frS ops es fr0 E ops.size) ((base+j,ob)::hS base es H0 E ops.size) a->VR w' (MM Mx ((base+j,ob)::hS base es H0 E ops.size) ρ2) ρ2 (DD ((base+j,ob)::hS base es H0 E ops.size)) v r->K (a.put o.dst v) w':=fun w' v ρ2 oX hv=>by
   refine hK _ _ _ ((oX.put (d:=o.dst) (by rw [kq];exact qW) hv).congr (fun t=>by rw [pP t,kq,ki];rfl) (fun i=>?_));rw [AW hb ops.size (fun i _ rH=>by
    by_cases e:i=j
    ·subst e;rw [ki];rfl
    ·rw [h2 i e] at rH;exact En i rH)]
   simp only [hget];rw [AW hb ops.size (fun i _ rH=>En i rH)];by_cases e:base+j=i
   ·subst e;rw [zzJ ⟨by omega,by omega,by rw [Nat.add_sub_cancel_left];exact h1,by rw [Nat.add_sub_cancel_left,ki];rfl⟩,zzJ rfl,Nat.add_sub_cancel_left,ki];rfl
   ·rw [zzI e];by_cases hib:base<=i
    ·have:i-base≠j:=by omega
     rw [h2 _ this]
    ·rw [zzI (fun h=>hib h.1),zzI (fun h=>hib h.1)]
  rw [zzJ (rW hw)];left;rcases sW with ⟨p,bH,hp⟩|⟨PE,f,args,ts,g,cap,ho,hf,pf⟩
  ·obtain ⟨v,w',bd,bJ,hv,sZ,hblk⟩:=UJ (P:=P) pL oZ bH hp;unfold Oper.wp;rw [bd];exact qT _ _ _ (bJ.Cr (fr':=frS ops es fr0 E ops.size) (fun t=>by subst hblk;exact VR.laid hs oZ (hs.frv t))) hv
  ·skip
   have aN: ∀i ob,hget (yav (ff base dl j) (hS base es H0 (fun _=>true) j)) i=some ob->hget (hS base es H0 E ops.size) i=some ob:=fun i ob hi=>by
    rw [U8] at hi
    split at hi
    ·cases hi
    ·rename_i hnd
     rw [AW hb j (fun i hi _=>O3 i hi)] at hi;rw [AW hb ops.size (fun i _ rH=>En i rH)]
     split at hi
     ·rename_i hcnd
      have dA:E (i-base)=true:=by
       rcases hc.new (i-base) j (by omega) hj hcnd.2.1 with g|g
       ·exact oq _ g
       ·exfalso;apply hnd;rw [List.contains_iff_mem];exact List.mem_map.2 ⟨i-base,List.contains_iff_mem.1 g,by omega⟩
      rw [zzJ ⟨hcnd.1,by omega,dA,hcnd.2.2.2⟩];exact hi
     ·rename_i hcnd
      by_cases hib:base<=i
      ·rw [hb i hib] at hi;cases hi
      ·rw [zzI (fun h=>hib h.1)];exact hi
   obtain ⟨My,K1,Ae⟩:=hs.sub aN (fun i ob hi=>List.all_eq_true.1 PE _ (Na hi)) (fr':=pR (yav (ff base dl j) (hS base es H0 (fun _=>true) j)) (cz (cK ex j) (frS ops es fr0 (fun _=>true) j))) (fun t=>by
    rcases Ua (yav (ff base dl j) (hS base es H0 (fun _=>true) j)) (cz (cK ex j) (frS ops es fr0 (fun _=>true) j)) t with g|⟨g1,g2⟩
    ·exact .inl g
    ·rcases Qg t with g3|g3
     ·left;rw [g1,g3]
     ·exact .inr ⟨by rw [g1,g3],g2⟩)
   have wx: ∀i,DD (yav (ff base dl j) (hS base es H0 (fun _=>true) j)) i->DD (hS base es H0 E ops.size) i:=fun i ⟨q,hq⟩=>⟨q,aN i q hq⟩;obtain ⟨vs,ef,uE,hx⟩:=(hf▸Ae.ev f).eO;obtain ⟨iL,fy⟩:=yuk (P:=P) Ae pf (vs:=args.toList.map a.eval++vs) (by simp [uE]) (fun i v x g1 g2=>by
    by_cases hi:i<args.toList.length
    ·rw [List.getElem?_append_left (by simpa using hi),zzO] at g1 g2;rw [zzH hi] at g1 g2;cases g1;cases g2;exact Ae.ev _
    ·rw [List.getElem?_append_right (by simpa using hi)] at g1 g2;simp only [List.length_map] at g1 g2;exact hx _ v x g1 g2)
   have e1:(args.map a.eval++vs.toArray)=(args.toList.map a.eval++vs).toArray:=by obtain ⟨l⟩:=args;simp
   have bd:(execOp a.eval o).run P w= .ok (.enter g (args.toList.map a.eval++vs).toArray) w:=by
    simp only [execOp,ho,resolve,ef];have h3:(#[]++Array.map a.eval args++vs.toArray)=(args.toList.map a.eval++vs).toArray:=by rw [Array.empty_append];exact e1
    simp only [Deferred.ofValue,invoke,Sem.run_bind,Sem.run_pure,Result.andThen_ok,h3];exact NN iL _
   unfold Oper.wp;rw [bd];refine fy.mono ?_;rintro e w' ⟨v,ik,n,t,l,ρ',M0,rfl,⟨rfl,rfl⟩,hk,hv⟩;obtain ⟨j1,j2⟩:=hs.GC oZ rfl hk;exact qT _ _ _ j1 (j2 _ _ _ hv)
 |store id ob=>
  rw [ki] at lf;obtain ⟨hw,mM,hl,t,x,y,p,ho,aZ,hp⟩:=lf;have Ez:ye0 o.op=false:=by rw [ho];rfl
  have kinds: ∀i,i<ops.size->i≠j->(∀H,(es i).eff (base+i) H=H)\/(E i=true/\i<j)\/(E i=false/\j<i)\/ ∃bY rU,es i= .store bY rU/\bY≠id:=fun i hi e=>by
   have dm:=kY i hi;have KQ:loud (ops.getD i default).op=true->(E i=true/\i<j)\/(E i=false/\j<i)\/(((nj ops).getD j []).contains i=false/\((nj ops).getD i []).contains j=false/\yH ops (ops.getD i default).op o.op=true):=fun sX=>by
    cases g1:((nj ops).getD j []).contains i with
    |true=>exact .inl ⟨oq i g1,hc.lt i j hi hj g1⟩
    |false=>
     cases g2:((nj ops).getD i []).contains j with
     |true=>exact .inr (.inl ⟨pb i g2,hc.lt j i hj hi g2⟩)
     |false=>
      rcases hc.lolo i j hi hj e sX (by rw [oh];exact hl) with g|g|g|g
      ·rw [g1] at g;cases g
      ·rw [g2] at g;cases g
      ·rw [oh,Ez] at g;cases g.2
      ·rw [oh] at g;exact .inr (.inr ⟨rfl,rfl,g⟩)
   cases hk:es i with
   |skip=>left;intro H;rfl
   |quiet r=>left;intro H;rfl
   |alloc r rU=>
    replace dm:=dm.resolve_left (by rw [hk];intro h;cases h);rw [hk] at dm
    have:=hc.lo i j hi hj e dm.2.1 dm.2.2.1 (by rw [oh];exact hl)
    exact .inr (.inl ⟨oq i this,hc.lt i j hi hj this⟩)
   |ins bY n' x'=>
    replace dm:=dm.resolve_left (by rw [hk];intro h;cases h);rw [hk] at dm;obtain ⟨_,_,h3,t1,m1,k1,v1,p1,zm,_⟩:=dm
    have:=hc.ins i j hi hj e (by rw [zm];rfl) (by rw [oh];exact hl)
    rw [oh,Ez] at this;cases this
   |app r g' rU=>
    replace dm:=dm.resolve_left (by rw [hk];intro h;cases h);rw [hk] at dm;obtain ⟨_,_,h3,s1,x1,t1,p1,zm,_⟩:=dm;rcases KQ h3 with g|g|⟨_,_,g⟩
    ·exact .inr (.inl g)
    ·exact .inr (.inr (.inl g))
    ·rw [zm] at g;cases g
   |store bY rU=>
    replace dm:=dm.resolve_left (by rw [hk];intro h;cases h);rw [hk] at dm;obtain ⟨_,_,h3,t1,x1,y1,p1,zm,CM,az⟩:=dm;rcases KQ h3 with g|g|⟨u1,u2,g⟩
    ·exact .inr (.inl g)
    ·exact .inr (.inr (.inl g))
    ·refine .inr (.inr (.inr ⟨bY,rU,rfl,?_⟩));unfold yH at g;have gg: ∀a b,stP (ops.getD i default).op=some a->stP o.op=some b->AX ops (some a) (some b)=true:=fun a b h1 h2=>by rw [<-h1,<-h2];exact g
     cases ha:stP (ops.getD i default).op with
     |none=>rw [ha] at g;cases g
     |some a=>
      cases nW:stP o.op with
      |none=>rw [ha,nW] at g;cases g
      |some b=>
       have g2:=gg a b ha nW;simp only [AX,zzS,bne_iff_ne] at g2;have oX:=xn i j a b hi hj e u1 u2 ha (by rw [oh];exact nW) g2.1.2 g2.2 g2.1.1;obtain ⟨off1,e1⟩:=S3 (ops:=ops) (es:=es) (fr0:=fr0) zm ha g2.1.2 CM;obtain ⟨off2,e2⟩:=S3 (ops:=ops) (es:=es) (fr0:=fr0) ho nW g2.2 aZ;unfold sep2 at oX;rw [e1,e2] at oX
       simp only [sepV,Bool.or_eq_true,beq_iff_eq,bne_iff_ne] at oX;rcases oX with h|h
       ·exact absurd h g2.1.1
       ·exact h
  have L1: ∀k,k<=ops.size->hget (hS base es H0 E k) id=hget (hS base es H0 (fun _=>true) (min k j)) id:=by
   intro k
   induction k with
   |zero=>intro _;simp [hS]
   |succ k ih=>
    intro hk;have dC:=ih (by omega);by_cases e:k=j
    ·subst e;simp only [hS,uO,if_false,Bool.false_eq_true];rw [dC,Nat.min_self,show min (k+1) k=k by omega]
    ·by_cases P5:k<j
     ·rw [show min (k+1) j=k+1 by omega];rw [show min k j=k by omega] at dC;simp only [hS,if_true];rcases kinds k (by omega) e with g1|⟨g1,_⟩|⟨_,g2⟩|⟨bY,rU,g1,g2⟩
      ·rw [g1,g1];split<;>exact dC
      ·rw [zzJ g1];exact Zv _ _ dC
      ·omega
      ·rw [g1];simp only [Ent.eff];rw [kk g2]
       split
       ·rw [kk g2];exact dC
       ·exact dC
     ·rw [show min (k+1) j=j by omega];rw [show min k j=j by omega] at dC;simp only [hS]
      split
      ·rename_i HI
       rcases kinds k (by omega) e with g1|⟨_,g2⟩|⟨g1,_⟩|⟨bY,rU,g1,g2⟩
       ·rw [g1];exact dC
       ·omega
       ·rw [g1] at HI;cases HI
       ·rw [g1];simp only [Ent.eff];rw [kk g2];exact dC
      ·exact dC
  have hid:=L1 ops.size (zzA _);rw [show min ops.size j=j by omega] at hid;rw [<-Zu aZ hid] at aZ;have L2: ∀k,j<k->k<=ops.size-> ∀i,hget (hS base es H0 E' k) i=hget (hset (hS base es H0 E k) id ob) i:=by
   intro k
   induction k with
   |zero=>intro h;omega
   |succ k ih=>
    intro xG hk i;by_cases e:k=j
    ·subst e;have tD:hS base es H0 E' k=hS base es H0 E k:=by
      have gen: ∀q,q<=k->hS base es H0 E' q=hS base es H0 E q:=by
       intro q
       induction q with
       |zero=>intro _;rfl
       |succ q ihq=>intro hq;simp only [hS];rw [ihq (by omega),h2 q (by omega)]
      exact gen k (zzA _)
     simp only [hS,h1,if_true,uO,Bool.false_eq_true,if_false,ki,Ent.eff];rw [tD]
    ·have dC:=ih (by omega) (by omega);simp only [hS,h2 k e]
     split
     ·rename_i HI
      rcases kinds k (by omega) e with g1|⟨_,g2⟩|⟨g1,_⟩|⟨bY,rU,g1,g2⟩
      ·rw [g1,g1];exact dC i
      ·omega
      ·rw [g1] at HI;cases HI
      ·rw [g1];simp only [Ent.eff];rw [A6,A6,A6,dC i,A6];by_cases e1:bY=i
       ·rw [zzJ e1,zzI (fun h=>g2 (e1.trans h.symm)),zzI (fun h=>g2 (e1.trans h.symm)),zzJ e1]
       ·rw [zzI e1,zzI e1]
     ·exact dC i
  obtain ⟨w',bd,bJ⟩:=UM (P:=P) hs (pL.ev x) (pL.ev y) aZ hp;rw [zzJ (rW hw)];left;have sa:(execOp a.eval o).run P w= .ok .skip w':=by simp only [execOp,ho];simp [bd]
  unfold Oper.wp;rw [sa];refine hK _ _ _ ((bJ.put (d:=o.dst) (by rw [kq];exact qW) (.any _)).congr (fun t=>by rw [pP t,kq,ki];rfl) (fun i=>?_));rw [L2 ops.size hj (zzA _) i]
 |app r g ob=>
  rw [ki] at lf;obtain ⟨hw,mM,hl,sx,x,t,p,ho,aZ,hp⟩:=lf;obtain ⟨QI,QH⟩:=G8 hl (by rw [ho];rfl) (by rw [ho];rfl);rw [<-QI] at aZ;have oZ:hget (hS base es H0 E ops.size) (base+j)=none:=by
   rw [QI];have gen: ∀k,k<=j-> ∀i,base+k<=i->hget (hS base es H0 (fun _=>true) k) i=none:=by
    intro k
    induction k with
    |zero=>intro _ i hi;exact hb i (by omega)
    |succ k ih=>
     intro hk i hi;have dC:=ih (by omega) i (by omega);simp only [hS,if_true];cases Ho:es k with
     |skip=>exact dC
     |quiet r=>exact dC
     |alloc r ob=>simp only [Ent.eff,hget];rw [zzI (by omega)];exact dC
     |store id ob=>
      simp only [Ent.eff];by_cases e:id=i
      ·subst e;have Ey: ∀(H:Hp),hget H id=none->hget (hset H id ob) id=none:=fun H hH=>by
        induction H with
        |nil=>rfl
        |cons q r ihr=>
         obtain ⟨m,oo⟩:=q;simp only [hget] at hH
         split at hH
         ·cases hH
         ·rename_i hm;simp only [hset,hm,if_false,hget];exact ihr hH
       exact Ey _ dC
      ·rw [kk e];exact dC
     |ins id n x=>
      have:=hc.ins k j (by omega) hj (by omega) (by
       have Hn:=(kY k (by omega)).resolve_left (by rw [Ho];intro h;cases h);rw [Ho] at Hn;obtain ⟨_,_,_,t',m',k',v',p',Ew,_⟩:=Hn;rw [Ew];rfl) (by rw [oh];exact hl)
      rw [oh,ho] at this;cases this
     |app r g ob=>
      simp only [Ent.eff,hget];rw [zzI (by omega)];cases g with
      |none=>exact dC
      |some id=>
       simp only [hgo];by_cases e:id=i
       ·subst e;have Ey: ∀(H:Hp),hget H id=none->hget (hset H id .gone) id=none:=fun H hH=>by
         induction H with
         |nil=>rfl
         |cons q r ihr=>
          obtain ⟨m,oo⟩:=q;simp only [hget] at hH
          split at hH
          ·cases hH
          ·rename_i hm;simp only [hset,hm,if_false,hget];exact ihr hH
        exact Ey _ dC
       ·rw [kk e];exact dC
   exact gen j (zzA _) _ (zzA _)
  obtain ⟨z,w',ρ',bd,bJ,hv⟩:=Zy (P:=P) (ty:=o.type) hs oZ (pL.ev sx) (pL.ev x) aZ hp;rw [zzJ (rW hw)];left;have sa:(execOp a.eval o).run P w= .ok (.value z) w':=by simp [execOp,ho,resolve,invoke,builtin,bd]
  unfold Oper.wp;rw [sa];refine hK _ _ _ ((bJ.put (d:=o.dst) (by rw [kq];exact qW) hv).congr (fun t=>by rw [pP t,kq,ki];rfl) (fun i=>?_));rw [QH,ki,QI];rfl
 |ins id n x=>
  rw [ki] at lf;obtain ⟨hw,mM,hl,t,mo,ko,vo,p,ho,aZ,hp⟩:=lf;obtain ⟨kt,et,fm,ee,em,ek,ev,t',g,hg,C5⟩:=S4 aZ hp;have kB:ye0 (ops.getD j default).op=true:=by rw [oh,ho];rfl
  have kinds: ∀i,i<ops.size->i≠j->(∀H,(es i).eff (base+i) H=H)\/(i<j/\E i=true/\ ∃r ob,es i= .alloc r ob)\/ ∃bY n' x',es i= .ins bY n' x':=fun i hi e=>by
   have dm:=kY i hi;cases hk:es i with
   |skip=>left;intro H;rfl
   |quiet r=>left;intro H;rfl
   |alloc r rU=>
    replace dm:=dm.resolve_left (by rw [hk];intro h;cases h);rw [hk] at dm
    have:=hc.lo i j hi hj e dm.2.1 dm.2.2.1 (by rw [oh];exact hl)
    exact .inr (.inl ⟨hc.lt i j hi hj this,oq i this,r,rU,rfl⟩)
   |store bY rU=>
    replace dm:=dm.resolve_left (by rw [hk];intro h;cases h);rw [hk] at dm;obtain ⟨_,_,h3,t1,x1,y1,p1,zm,_⟩:=dm
    have:=hc.ins j i hj hi (Ne.symm e) kB h3
    rw [zm] at this;cases this
   |app r g' rU=>
    replace dm:=dm.resolve_left (by rw [hk];intro h;cases h);rw [hk] at dm;obtain ⟨_,_,h3,t1,x1,y1,p1,zm,_⟩:=dm
    have:=hc.ins j i hj hi (Ne.symm e) kB h3
    rw [zm] at this;cases this
   |ins bY n' x'=>exact .inr (.inr ⟨bY,n',x',rfl⟩)
  have L1: ∀k,k<=ops.size->zd (hS base es H0 E k) id=zd (hS base es H0 (fun _=>true) (min k j)) id:=by
   intro k
   induction k with
   |zero=>intro _;simp [hS]
   |succ k ih=>
    intro hk;have dC:=ih (by omega);by_cases e:k=j
    ·subst e;simp only [hS,uO,if_false,Bool.false_eq_true];rw [dC,Nat.min_self,show min (k+1) k=k by omega]
    ·by_cases P5:k<j
     ·rw [show min (k+1) j=k+1 by omega];rw [show min k j=k by omega] at dC;simp only [hS,if_true];rcases kinds k (by omega) e with g1|⟨_,g2,r,ob,g3⟩|⟨bY,n',x',g1⟩
      ·rw [g1,g1];split<;>exact dC
      ·rw [zzJ g2,g3];simp only [Ent.eff,zd,hget]
       split
       ·rfl
       ·exact dC
      ·rw [g1];simp only [Ent.eff,Mu]
       split
       ·rw [Mu];exact dC
       ·exact dC
     ·rw [show min (k+1) j=j by omega];rw [show min k j=j by omega] at dC;simp only [hS]
      split
      ·rcases kinds k (by omega) e with g1|⟨g2,_⟩|⟨bY,n',x',g1⟩
       ·rw [g1];exact dC
       ·omega
       ·rw [g1];simp only [Ent.eff,Mu];exact dC
      ·exact dC
  have YC:=L1 ops.size (zzA _);rw [show min ops.size j=j by omega] at YC;have P5:zd (hS base es H0 (fun _=>true) j) id=some t':=by unfold zd;rw [hg];rfl
  obtain ⟨gE,YJ⟩: ∃gE,hget (hS base es H0 E ops.size) id=some (.fmap t' (.ints gE)):=y4k (YC.trans P5);have L3: ∀k,j<k->k<=ops.size->(Dk (hS base es H0 (fun _=>true) k) id n).isSome=true:=by
   intro k
   induction k with
   |zero=>intro h;omega
   |succ k ih=>
    intro xG hk;by_cases e:k=j
    ·subst e;simp only [hS,if_true,ki,Ent.eff];rw [y4l hg];rfl
    ·have dC:=ih (by omega) (by omega);simp only [hS,if_true];rcases kinds k (by omega) e with g1|⟨g2,_⟩|⟨bY,n',x',g1⟩
     ·rw [g1];exact dC
     ·omega
     ·rw [g1];simp only [Ent.eff];exact y7v dC
  have Hr: ∀k,j<k->k<ops.size-> ∀bY n' x',es k= .ins bY n' x'->bY≠id\/n'≠n:=by
   intro k xG hk bY n' x' Ho;have zq:=(kY k hk).resolve_left (by rw [Ho];intro h;cases h);rw [Ho] at zq;obtain ⟨_,_,_,t1,m1,k1,v1,p1,zm,CM,az⟩:=zq;obtain ⟨_,_,_,_,_,_,_,t2,g2,Ap,Qf⟩:=S4 CM az;by_cases e1:bY=id
   ·by_cases e2:n'=n
    ·exfalso;subst e1 e2
     have:=L3 k xG (by omega)
     unfold Dk at this;rw [Ap] at this;simp only [Lh,Qf] at this;cases this
    ·exact .inr e2
   ·exact .inl e1
  have L2: ∀k,j<k->k<=ops.size-> ∀i,hget (hS base es H0 E' k) i=hget (insE (hS base es H0 E k) id n x) i:=by
   intro k
   induction k with
   |zero=>intro h;omega
   |succ k ih=>
    intro xG hk i;by_cases e:k=j
    ·subst e;have tD:hS base es H0 E' k=hS base es H0 E k:=by
      have gen: ∀q,q<=k->hS base es H0 E' q=hS base es H0 E q:=by
       intro q
       induction q with
       |zero=>intro _;rfl
       |succ q ihq=>intro hq;simp only [hS];rw [ihq (by omega),h2 q (by omega)]
      exact gen k (zzA _)
     simp only [hS,h1,if_true,uO,Bool.false_eq_true,if_false,ki,Ent.eff];rw [tD]
    ·have dC:=ih (by omega) (by omega);simp only [hS,h2 k e]
     split
     ·rcases kinds k (by omega) e with g1|⟨g2,_⟩|⟨bY,n',x',g1⟩
      ·rw [g1,g1];exact dC i
      ·omega
      ·rw [g1];simp only [Ent.eff];exact Zw dC (Hr k (by omega) (by omega) bY n' x' g1) i
     ·exact dC i
  have hmu:muF P (hS base es H0 E ops.size) t (.mp id) (.int .i64 n) (.int .i64 x)=some (id, .fmap t' (.ints (updI gE n x))):=by
   unfold muF;rw [fm];simp only [ee,muK,YJ,muM]
  have zp:=pL.ev mo;have Bz:=pL.ev ko;have hv1:=pL.ev vo;rw [em] at zp;rw [ek] at Bz;rw [ev] at hv1;obtain ⟨w',bd,bJ⟩:=UL (P:=P) hs zp Bz hv1 hmu;rw [zzJ (rW hw)];left;have sa:(execOp a.eval o).run P w= .ok .skip w':=by simp only [execOp,ho];simp [bd]
  unfold Oper.wp;rw [sa];refine hK _ _ _ ((bJ.put (d:=o.dst) (by rw [kq];exact qW) (.any _)).congr (fun t=>by rw [pP t,kq,ki];rfl) (fun i=>?_));rw [L2 ops.size hj (zzA _) i];unfold insE;rw [YJ];rfl
theorem UR {q:Nat} (hq:q<=ops.size) {H:Hp} {fr:Fr} (hc:Rr ops ex dl) (xn: ∀i j a b,i<ops.size->j<ops.size->i≠j->((nj ops).getD j []).contains i=false->((nj ops).getD i []).contains j=false->stP (ops.getD i default).op=some a->stP (ops.getD j default).op=some b->wS ops a=true->wS ops b=true->a≠b->sep2 fr a b=true)
  (kY: ∀j,j<ops.size->es j= .skip\/yG P ops (hnew H) ex dl j (ops.getD j default) (frS ops es fr (fun _=>true) j) (hS (hnew H) es H (fun _=>true) j) (es j))
  (lf: ∀j,j<q->dok (jK ops j) N=true/\yG P ops (hnew H) ex dl j (ops.getD j default) (frS ops es fr (fun _=>true) j) (hS (hnew H) es H (fun _=>true) j) (es j))
  (sv: ∀j,q<=j->j<ops.size-> ∀i,i<q->((nj ops).getD j []).contains i=true) (Q:Exit->Act->World->Prop)
  (post: ∀(listed:Array Bool) (a:Act) (w:World) (ρ:Nat->Addr),listed.size=ops.size->(∀i,i<ops.size->listed.getD i false=decide (i<q))->aK B w0 Mx N w ρ (frS ops es fr (fun _=>true) q) (hS (hnew H) es H (fun _=>true) q) a->wpAny P .any ops Q (ops.size-q) listed a w):
  ∀(f:Nat) (listed:Array Bool) (a:Act) (w:World),listed.size=ops.size->cntE (fun i=>listed.getD i false) ops.size+f=q->(∀i,q<=i->listed.getD i false=false)->D5 ops (fun i=>listed.getD i false)->
   (∃ρ,aK B w0 Mx N w ρ (frS ops es fr (fun i=>listed.getD i false) ops.size) (hS (hnew H) es H (fun i=>listed.getD i false) ops.size) a)->
   wpAny P .any ops Q (ops.size-q+f) listed a w:=by
 have Ia: ∀(E:Nat->Bool),(∀i,q<=i->E i=false)->cntE E ops.size=cntE E q:=by
  intro E hE;have gen: ∀d,q+d<=ops.size->cntE E (q+d)=cntE E q:=by
   intro d
   induction d with
   |zero=>intro _;rfl
   |succ d ih=>intro hd;rw [<-Nat.add_assoc];simp only [cntE,hE (q+d) (by omega),Bool.false_eq_true,if_false];exact ih (by omega)
  have:=gen (ops.size-q) (by omega)
  rwa [show q+(ops.size-q)=ops.size by omega] at this
 intro f
 induction f with
 |zero=>
  intro listed a w kp Dc eJ bF ⟨ρ,hs⟩;rw [Ia _ eJ] at Dc;have cF:=T8 q (by omega:cntE (fun i=>listed.getD i false) q=q);have sX: ∀i,i<ops.size->listed.getD i false=decide (i<q):=fun i hi=>by
   by_cases e:i<q
   ·rw [cF i e];simp [e]
   ·rw [eJ i (by omega)];simp [e]
  have e1: ∀t,fget (frS ops es fr (fun _=>true) q) t=fget (frS ops es fr (fun i=>listed.getD i false) ops.size) t:=fun t=>by
   rw [<-Ru (ops:=ops) (es:=es) (fr0:=fr) (j:=q) (E:=fun i=>decide (i<q)) (fun _=>rfl) ops.size hq];exact J2 ops.size fun i hi _=>(sX i hi).symm
  have e2:hS (hnew H) es H (fun _=>true) q=hS (hnew H) es H (fun i=>listed.getD i false) ops.size:=by
   rw [<-Ln (base:=hnew H) (es:=es) (H0:=H) (j:=q) (E:=fun i=>decide (i<q)) (fun _=>rfl) ops.size hq];exact Ec ops.size fun i hi=> .inr (sX i hi).symm
  exact post listed a w ρ kp sX (hs.congr e1 (fun i=>by rw [e2]))
 |succ f ih=>
  intro listed a w kp Dc eJ bF ⟨ρ,hs⟩;have dM: ∃j,j<q/\listed.getD j false=false:=by
   refine zzT fun hn=>?_;have cF: ∀i,i<q->listed.getD i false=true:=fun i hi=>by
    cases hh:listed.getD i false with
    |true=>rfl
    |false=>exact absurd ⟨i,hi,hh⟩ hn
   have pf: ∀k,k<=q->cntE (fun i=>listed.getD i false) k=k:=by
    intro k
    induction k with
    |zero=>intro _;rfl
    |succ k dC=>intro hk;simp only [cntE,dC (by omega),cF k (by omega),if_true]
   rw [Ia _ eJ,pf q (zzA _)] at Dc;omega
  refine ⟨fun iB=>?_,fun j hj=>?_⟩
  ·exfalso;obtain ⟨j0,hj0,hf0⟩:=dM;have gen: ∀m,∀j,j<=m->j<q->listed.getD j false=false-> ∃j,j<q/\listed.getD j false=false/\ ∀i,i<j->listed.getD i false=true:=by
    intro m
    induction m with
    |zero=>intro j uI hj hf;exact ⟨j,hj,hf,fun i hi=>by omega⟩
    |succ m ihm=>
     intro j uI hj hf;by_cases uF: ∃i,i<j/\listed.getD i false=false
     ·obtain ⟨i,kB,xK⟩:=uF;exact ihm i (by omega) (by omega) xK
     ·refine ⟨j,hj,hf,fun i hi=>?_⟩;cases hh:listed.getD i false with
      |true=>rfl
      |false=>exact absurd ⟨i,hi,hh⟩ uF
   obtain ⟨j,hj,hf,uF⟩:=gen j0 j0 (zzA _) hj0 hf0;have hj:j<ops.size:=by omega
   have:j∈Region.ready .any ops listed:=mem_ready.2 ⟨by
    have nT:j<listed.size:=by omega
    simpa [nT] using hf,ops[j],by simp [hj],fun e he Hz=>uF _ (hc.elt j hj e.on (by
     simp only [rL,List.mem_map,List.mem_filter];exact ⟨e,⟨by simpa [hj] using he,Hz⟩,rfl⟩))⟩
   rw [iB] at this;cases this
  ·obtain ⟨g1,o,g2,g3⟩:=mem_ready.1 hj;have jh:j<ops.size:=(Array.getElem?_eq_some_iff.1 g2).1;have nT:j<listed.size:=by omega
   have uO:listed.getD j false=false:=by simpa [nT] using g1
   have ho:ops.getD j default=o:=by simp [g2]
   have xM: ∀e∈rL (ops.getD j default),listed.getD e false=true:=fun e he=>by
    rw [ho] at he;simp only [rL,List.mem_map,List.mem_filter] at he;obtain ⟨x,⟨KF,zi⟩,rfl⟩:=he;exact g3 x (by simpa using KF) zi
   have uH:j<q:=by
    rcases zzV j q with g|g
    ·exact g
    ·obtain ⟨i,hi,xK⟩:=dM
     have:=LV (E:=fun i=>listed.getD i false) bF (sv j g jh i hi) xM
     rw [xK] at this;cases this
   have xm:(listed.setIfInBounds j true).getD j false=true:=by simp [nT]
   have rZ: ∀i,i≠j->(listed.setIfInBounds j true).getD i false=listed.getD i false:=fun i hi=>getD_set_ne false (Ne.symm hi)
   refine Zt (P:=P) (N:=N) (ex:=ex) (dl:=dl) hc xn (fun i hi=>Ee hi) kY bF (fun i hi=>?_) jh (lf j uH).1 (lf j uH).2 uO xM hs (E':=fun i=>(listed.setIfInBounds j true).getD i false) xm rZ _ _ (fun a' w' ρ' bJ=>ih _ a' w' (by simpa using kp) ?_ ?_ ?_ ⟨ρ',bJ⟩)
   ·have pO:i<listed.size:=by
     rcases zzV i listed.size with g|g
     ·exact g
     ·simp [Nat.not_lt.2 g] at hi
    omega
   ·have:=T7 (E:=fun i=>listed.getD i false) (E':=fun i=>(listed.setIfInBounds j true).getD i false) uO xm rZ ops.size
    rw [zzJ jh] at this;omega
   ·intro i hi;rw [rZ i (by omega)];exact eJ i hi
   ·intro k hk i hi;show (listed.setIfInBounds j true).getD i false=true;have hk:(listed.setIfInBounds j true).getD k false=true:=hk;by_cases e:i=j
    ·subst e;exact xm
    ·rw [rZ i e];by_cases ek:k=j
     ·subst ek;exact xM i hi
     ·rw [rZ k ek] at hk;exact bF k hk i hi
theorem U7 {q:Nat} {H:Hp} {fr:Fr} {a:Act} {w:World} {ρ:Nat->Addr} {Q:Exit->Act->World->Prop} (hq:q<=ops.size) (hs:aK B w0 Mx N w ρ fr H a)
  (G7: ∀(f:Nat) (listed:Array Bool) (a:Act) (w:World),listed.size=ops.size->cntE (fun i=>listed.getD i false) ops.size+f=q->(∀i,q<=i->listed.getD i false=false)->D5 ops (fun i=>listed.getD i false)->
   (∃ρ,aK B w0 Mx N w ρ (frS ops es fr (fun i=>listed.getD i false) ops.size) (hS (hnew H) es H (fun i=>listed.getD i false) ops.size) a)->
   wpAny P .any ops Q (ops.size-q+f) listed a w):wpAny P .any ops Q ops.size (Array.replicate ops.size false) a {w with drawn:=w.drawn+1}:=by
 have h0:=G7 q (Array.replicate ops.size false) a {w with drawn:=w.drawn+1} (by simp) ?_ (fun i _=>A7 _ _) (fun j hj=>?_) ⟨ρ,(hs.draw).congr (fun t=>?_) (fun i=>?_)⟩
 ·rwa [show ops.size-q+q=ops.size by omega] at h0
 ·have: ∀k,cntE (fun i=>(Array.replicate ops.size false).getD i false) k=0:=by
   intro k
   induction k with
   |zero=>rfl
   |succ k dC=>simp only [A7] at dC;simp only [cntE,A7,dC];rfl
  rw [this];omega
 ·exfalso;have hj:(Array.replicate ops.size false).getD j false=true:=hj;rw [A7] at hj;cases hj
 ·have: ∀k,frS ops es fr (fun i=>(Array.replicate ops.size false).getD i false) k=fr:=by
   intro k
   induction k with
   |zero=>rfl
   |succ k dC=>simp only [A7] at dC;simp only [frS,A7,dC];rfl
  rw [this]
 ·have: ∀k,hS (hnew H) es H (fun i=>(Array.replicate ops.size false).getD i false) k=H:=by
   intro k
   induction k with
   |zero=>rfl
   |succ k dC=>simp only [A7] at dC;simp only [hS,A7,dC];rfl
  rw [this]
theorem UQ {listed:Array Bool} (kp:listed.size=ops.size) (cF: ∀i,i<ops.size->listed.getD i false=true):Region.ready .any ops listed=[]:=by
 rw [List.eq_nil_iff_forall_not_mem];intro j hj;obtain ⟨g1,o,g2,_⟩:=mem_ready.1 hj;have jh:j<ops.size:=(Array.getElem?_eq_some_iff.1 g2).1
 have:=cF j jh
 have nT:j<listed.size:=by omega
 simp [nT] at this g1;rw [this] at g1;cases g1
theorem ba.CD {id:Nat} {fr:Fr} {H:Hp} {Q:Exit->Fr->Hp->Prop} (ex dl:List (List Nat)) (pd:(Ic ops ex dl&&(ex.length==ops.size)&&(dl.length==ops.size))=true) (hm:P.follows .mixedOrders=true)
  (xn: ∀i j a b,i<ops.size->j<ops.size->i≠j->((nj ops).getD j []).contains i=false->((nj ops).getD i []).contains j=false->stP (ops.getD i default).op=some a->stP (ops.getD j default).op=some b->wS ops a=true->wS ops b=true->a≠b->sep2 fr a b=true)
  (h:awD P N ops (hnew H) 0 ops.toList ex dl fr H (Q .normal)):ba P N id ops fr H Q:=by
 simp only [zzS,beq_iff_eq] at pd;obtain ⟨⟨jT,ng⟩,sw⟩:=pd;have hc:=Rt jT;obtain ⟨es,h1,h2⟩:=M4 (P:=P) (N:=N) (ops:=ops) (base:=hnew H) (ex:=ex) (dl:=dl) ops.size 0 fr H (by omega) ng sw (by
  rw [zzR (by simp)];simpa using h)
 have kY: ∀j,j<ops.size->dok (jK ops j) N=true/\yG P ops (hnew H) ex dl j (ops.getD j default) (frS ops es fr (fun _=>true) j) (hS (hnew H) es H (fun _=>true) j) (es j):=fun j hj=>by
  obtain ⟨g1,fr',H',g2,g3,g4⟩:=h1 j hj;rw [Nat.zero_add] at g1 g4;rw [Ft] at g2;rw [EN] at g3;subst g2 g3;exact ⟨g1,g4⟩
 rw [Ft,EN] at h2;refine ⟨fun B w0 Mx w ρ a hs=>wp_region_any hm (U7 (q:=ops.size) (zzA _) hs (UR (zzA _) hc xn (fun j hj=> .inr (kY j hj).2) kY (fun j h1 h2=>by omega) _ (fun listed a w ρ kp sX hs=>?_)))⟩;rw [Nat.sub_self];exact ⟨UQ kp (fun i hi=>by rw [sX i hi];simp [hi]),ρ,_,_,h2,hs⟩
def yxu (P:Program) (N:Nat) (ops:Array Oper) (K:Fr->Hp->Prop) (fr:Fr) (H:Hp):Prop:=awL P N ops (ops.toList.drop (ops.size-1)) fr H K
theorem ba.aG {id:Nat} {fr:Fr} {H:Hp} {Q:Exit->Fr->Hp->Prop} (ex dl:List (List Nat)) (pd:(Ic ops ex dl&&(ex.length==ops.size)&&(dl.length==ops.size)&&V1 ops&&S8 ops)=true) (hm:P.follows .mixedOrders=true)
  (h:awD P N ops (hnew H) 0 (ops.toList.take (ops.size-1)) ex dl fr H (yxu P N ops (Q .normal))):ba P N id ops fr H Q:=by
 simp only [zzS,beq_iff_eq] at pd;obtain ⟨⟨⟨⟨jT,ng⟩,sw⟩,wj⟩,EA⟩:=pd;have hc:=Rt jT;unfold S8 at EA;simp only [zzS,decide_eq_true_eq,Option.isNone_iff_eq_none,List.all_eq_true,List.mem_range] at EA;obtain ⟨⟨GZ,C5⟩,oq⟩:=EA
 obtain ⟨ik,h1',EL⟩:=M4 (P:=P) (N:=N) (ops:=ops) (base:=hnew H) (ex:=ex) (dl:=dl) (ops.size-1) 0 fr H (by omega) ng sw (by simpa only [List.drop_zero] using h);obtain ⟨es,Qj,Hm⟩: ∃es:Nat->Ent,es (ops.size-1)= .skip/\ ∀i,i<ops.size-1->es i=ik i:=⟨fun i=>if i<ops.size-1 then ik i else .skip,by simp,fun i hi=>by simp [hi]⟩
 have dW: ∀k,k<=ops.size-1->frS ops es fr (fun _=>true) k=frS ops ik fr (fun _=>true) k/\hS (hnew H) es H (fun _=>true) k=hS (hnew H) ik H (fun _=>true) k:=by
  intro k
  induction k with
  |zero=>intro _;exact ⟨rfl,rfl⟩
  |succ k ih=>
   intro hk;obtain ⟨i1,i2⟩:=ih (by omega);simp only [frS,hS,if_true,i1,i2,Hm k (by omega),and_self]
 have kY: ∀j,j<ops.size-1->dok (jK ops j) N=true/\yG P ops (hnew H) ex dl j (ops.getD j default) (frS ops es fr (fun _=>true) j) (hS (hnew H) es H (fun _=>true) j) (es j):=fun j hj=>by
  obtain ⟨g1,fr',H',g2,g3,g4⟩:=h1' j hj;rw [Nat.zero_add] at g1 g4;rw [Ft] at g2;rw [EN] at g3;subst g2 g3;rw [(dW j (by omega)).1,(dW j (by omega)).2,Hm j hj];exact ⟨g1,g4⟩
 rw [Ft,EN,<-(dW (ops.size-1) (zzA _)).1,<-(dW (ops.size-1) (zzA _)).2] at EL;refine ⟨fun B w0 Mx w ρ a hs=>wp_region_any hm (U7 (q:=ops.size-1) (by omega) hs (UR (by omega) hc (fun i j a b hi hj aA h1 h2 ha hb ua ub mQ=>?_) (fun j hj=>?_) kY (fun j h1 h2 i hi=>?_) _ (fun listed a w ρ kp sX hs=>?_)))⟩
 ·exfalso;have h0:=List.all_eq_true.1 (List.all_eq_true.1 wj j (by simpa using hj)) i (by simpa using hi);simp only [Bool.or_eq_true,beq_iff_eq,Bool.not_eq_true'] at h0;rcases h0 with ((h0|h0)|h0)|h0
  ·exact aA h0
  ·unfold yH at h0;rw [ha,hb] at h0;simp only [AX,ua,ub,Bool.and_true,bne_eq_false_iff_eq] at h0;exact mQ h0
  ·rw [h1] at h0;cases h0
  ·rw [h2] at h0;cases h0
 ·rcases zzV j (ops.size-1) with g|g
  ·exact .inr (kY j g).2
  ·rw [show j=ops.size-1 by omega];exact .inl Qj
 ·rw [show j=ops.size-1 by omega];exact oq i hi
 ·rw [show ops.size-(ops.size-1)=0+1 by omega];refine ⟨fun iB=>?_,fun j hj=>?_⟩
  ·exfalso
   have:ops.size-1∈Region.ready .any ops listed:=mem_ready.2 ⟨by
    have nT:ops.size-1<listed.size:=by omega
    have:=sX (ops.size-1) (by omega)
    simpa [nT] using this,ops[ops.size-1],by simp,fun e he Hz=>by
     have aD:=hc.elt (ops.size-1) (by omega) e.on (by
      simp only [rL,List.mem_map,List.mem_filter];refine ⟨e,⟨?_,Hz⟩,rfl⟩;have hgd:ops.getD (ops.size-1) default=ops[ops.size-1]:=by simp [show ops.size-1<ops.size by omega]
      rw [hgd];simpa using he)
     rw [sX e.on (by omega)];simp [aD]⟩
   rw [iB] at this;cases this
  ·obtain ⟨g1,o,g2,g3⟩:=mem_ready.1 hj;have jh:j<ops.size:=(Array.getElem?_eq_some_iff.1 g2).1;have nT:j<listed.size:=by omega
   have uO:listed.getD j false=false:=by simpa [nT] using g1
   have uH:j=ops.size-1:=by
    rw [sX j jh] at uO
    have: ¬j<ops.size-1:=by simpa using uO
    omega
   subst uH;have ho:ops.getD (ops.size-1) default=o:=by simp [g2]
   unfold wpOp;rw [g2];simp only;rw [ho] at C5;unfold yxu at EL;have Qn:ops.toList.drop (ops.size-1)=[o]:=by
    rw [List.drop_eq_getElem_cons (by simp;omega),List.drop_of_length_le (by simp;omega)]
    have:=(Array.getElem?_eq_some_iff.1 g2).2
    simpa using this
   rw [Qn] at EL;simp only [awL,C5] at EL;rw [zzJ (by simp [Region.wanted,C5])];left;refine Oper.wp_mono ?_ (Fx hs EL _);rintro a' w' ⟨ρ',fr',H',hq,bJ⟩;exact ⟨UQ (by simpa using kp) (fun i hi=>by
    by_cases e:i=ops.size-1
    ·subst e;simp [nT]
    ·rw [getD_set_ne false (Ne.symm e),sX i hi];simp;omega),ρ',fr',H',hq,bJ⟩
theorem ba.intro {id:Nat} {fr:Fr} {H:Hp} {Q:Exit->Fr->Hp->Prop} (ex dl:List (List Nat)) (pd:(Ic ops ex dl&&(ex.length==ops.size)&&(dl.length==ops.size)&&V1 ops)=true) (hm:P.follows .mixedOrders=true)
  (h:awD P N ops (hnew H) 0 ops.toList ex dl fr H (Q .normal)):ba P N id ops fr H Q:=by
 rw [zzS] at pd;refine ba.CD ex dl pd.1 hm (fun i j a b hi hj aA h1 h2 ha hb ua ub mQ=>?_) h;exfalso;have h0:=List.all_eq_true.1 (List.all_eq_true.1 pd.2 j (by simpa using hj)) i (by simpa using hi);simp only [Bool.or_eq_true,beq_iff_eq,Bool.not_eq_true'] at h0;rcases h0 with ((h0|h0)|h0)|h0
 ·exact aA h0
 ·unfold yH at h0;rw [ha,hb] at h0;simp only [AX,ua,ub,Bool.and_true,bne_eq_false_iff_eq] at h0;exact mQ h0
 ·rw [h1] at h0;cases h0
 ·rw [h2] at h0;cases h0
end
inductive Tr where
 |done
 |node (l:List (Nat×Tr))
def trD:List Nat->Tr
 |[]=> .done
 |i::r=> .node [(i,trD r)]
def trP:List Nat->Tr->Tr
 |[],t=>t
 |i::r,t=> .node [(i,trP r t)]
mutual
def chkT (ops:Array Oper) (listed:Array Bool):Nat->Tr->Bool
 |0, .done=>(Region.ready .any ops listed).isEmpty
 |f+1, .node l=> !(Region.ready .any ops listed).isEmpty&&(Region.ready .any ops listed==l.map (·.1))&&IU ops listed f l
 |_,_=>false
def IU (ops:Array Oper) (listed:Array Bool) (f:Nat):List (Nat×Tr)->Bool
 |[]=>true
 |(i,t)::r=>chkT ops (listed.setIfInBounds i true) f t&&IU ops listed f r
end
mutual
def awT (P:Program) (N:Nat) (ops:Array Oper):Tr->Fr->Hp->(Fr->Hp->Prop)->Prop
 | .done,fr,H,K=>K fr H
 | .node l,fr,H,K=>awTs P N ops l fr H K
def awTs (P:Program) (N:Nat) (ops:Array Oper):List (Nat×Tr)->Fr->Hp->(Fr->Hp->Prop)->Prop
 |[],_,_,_=>True
 |(i,t)::r,fr,H,K=>awL P N ops ((ops[i]?).toList) fr H (fun fr' H'=>awT P N ops t fr' H' K)/\awTs P N ops r fr H K
end
theorem ZZ {P:Program} {N:Nat} {ops:Array Oper} {B:Nat} {w0:nN} {Mx:Nat->Prop} {w:World} {ρ:Nat->Addr} {fr:Fr} {H:Hp} {a:Act} {K:Fr->Hp->Prop} {i:Nat} {o:Oper} (hi:ops[i]?=some o) (hq:awL P N ops [o] fr H K) (hs:aK B w0 Mx N w ρ fr H a) (Q:Exit->Act->World->Prop) (K':Act->World->Prop) (hK: ∀a' w' ρ' fr' H',K fr' H'->aK B w0 Mx N w' ρ' fr' H' a'->K' a' w'):wpOp P ops Q i K' a w:=by
 unfold wpOp;rw [hi];simp only [awL] at hq⊢;have mN: ∀(a':Act) (w':World),(∃ρ' fr' H',K fr' H'/\aK B w0 Mx N w' ρ' fr' H' a')->K' a' w':=fun a' w' ⟨ρ',fr',H',h1,h2⟩=>hK a' w' ρ' fr' H' h1 h2
 split at hq
 ·rename_i hg
  have hw:Region.wanted o (yielded ops a.tmps)=true:=by simp [Region.wanted,hg]
  rw [zzJ hw];exact .inl (Oper.wp_mono mN (Fx hs hq _))
 ·rename_i j b hg
  split at hq
  ·rename_i c hc
   have hy:=Kh hs hc;by_cases qX:c=b
   ·have hw:Region.wanted o (yielded ops a.tmps)=true:=by simp [Region.wanted,hg,hy,qX]
    rw [zzJ hw];exact .inl (Oper.wp_mono mN (Fx (hs.gput (qX▸hc)) (hq.1 qX) _))
   ·have hw: ¬Region.wanted o (yielded ops a.tmps)=true:=by simp [Region.wanted,hg,hy,qX]
    rw [zzI hw];have sE:c= !b:=by cases c<;>cases b<;>simp_all
    obtain ⟨hd,hq⟩:=hq.2 sE;exact hK _ _ ρ _ _ hq ((hs.gput (sE▸hc)).put hd (.tup [] [] rfl (fun i v x h=>by simp at h)))
  ·rename_i hc
   have hy:=NG hs hc;have hw: ¬Region.wanted o (yielded ops a.tmps)=true:=by simp [Region.wanted,hg,hy]
   rw [zzI hw];exact hK _ _ ρ _ _ hq.2 (hs.put hq.1 (.tup [] [] rfl (fun i v x h=>by simp at h)))
  ·exact hq.elim
theorem T6 {P:Program} {N:Nat} {ops:Array Oper} {fr:Fr} {H:Hp} {K:Fr->Hp->Prop}: ∀(l:List (Nat×Tr)),awTs P N ops l fr H K-> ∀q∈l,awL P N ops ((ops[q.1]?).toList) fr H (fun fr' H'=>awT P N ops q.2 fr' H' K)
 |[],_,q,hq=>by cases hq
 |(i,t)::r,h,q,hq=>by
  simp only [awTs] at h;rcases List.mem_cons.1 hq with e|e
  ·subst e;exact h.1
  ·exact T6 r h.2 q e
theorem UP {ops:Array Oper} {listed:Array Bool} {f:Nat}: ∀(l:List (Nat×Tr)),IU ops listed f l=true-> ∀q∈l,chkT ops (listed.setIfInBounds q.1 true) f q.2=true
 |[],_,q,hq=>by cases hq
 |(i,t)::r,h,q,hq=>by
  simp only [IU,zzS] at h;rcases List.mem_cons.1 hq with e|e
  ·subst e;exact h.1
  ·exact UP r h.2 q e
theorem Zs {P:Program} {N:Nat} {ops:Array Oper} {B:Nat} {w0:nN} {Mx:Nat->Prop} {K:Fr->Hp->Prop} (Q:Exit->Act->World->Prop) (hQ: ∀a' w' ρ' fr' H',K fr' H'->aK B w0 Mx N w' ρ' fr' H' a'->Q .normal a' w'): ∀(f:Nat) (t:Tr) (listed:Array Bool) (w:World) (ρ:Nat->Addr) (fr:Fr) (H:Hp) (a:Act),chkT ops listed f t=true->awT P N ops t fr H K->aK B w0 Mx N w ρ fr H a->wpAny P .any ops Q f listed a w:=by
 intro f
 induction f with
 |zero=>
  intro t listed w ρ fr H a hc h hs;cases t with
  |done=>
   simp only [chkT,List.isEmpty_iff] at hc;simp only [awT] at h;exact ⟨hc,hQ _ _ ρ _ _ h hs⟩
  |node l=>simp [chkT] at hc
 |succ f ih=>
  intro t listed w ρ fr H a hc h hs;cases t with
  |done=>simp [chkT] at hc
  |node l=>
   simp only [chkT,zzS,Bool.not_eq_true',beq_iff_eq] at hc;simp only [awT] at h;refine ⟨fun iB=>by rw [iB] at hc;simp at hc,fun i hi=>?_⟩;rw [hc.1.2] at hi;obtain ⟨q,hq,rfl⟩:=List.mem_map.1 hi;have h1:=T6 l h q hq;have h2:=UP l hc.2 q hq;have hr:q.1∈Region.ready .any ops listed:=by rw [hc.1.2];exact List.mem_map_of_mem hq
   obtain ⟨_,o,g2,_⟩:=mem_ready.1 hr;rw [g2] at h1;exact ZZ g2 h1 hs _ _ fun a' w' ρ' fr' H' hk bJ=>ih q.2 _ w' ρ' fr' H' a' h2 hk bJ
theorem ba.bR {P:Program} {N:Nat} {ops:Array Oper} {id:Nat} {fr:Fr} {H:Hp} {Q:Exit->Fr->Hp->Prop} (t:Tr) (pd:chkT ops (Array.replicate ops.size false) ops.size t=true) (hm:P.follows .mixedOrders=true)
  (h:awT P N ops t fr H (Q .normal)):ba P N id ops fr H Q:=
 ⟨fun _ _ _ _ ρ a hs=>wp_region_any hm (Zs _ (fun _ _ ρ' fr' H' hk bJ=>⟨ρ',fr',H',hk,bJ⟩) ops.size t _ _ ρ fr H a pd h hs.draw)⟩
section
variable {P:Program} {N:Nat} {ops:Array Oper} {fr fr':Fr} {H H':Hp} {K:Fr->Hp->Prop}
theorem yzy {t:Tr} (h1:fr=fr') (h2:H=H'):awT P N ops t fr H K=awT P N ops t fr' H' K:=by rw [h1,h2]
theorem yxw {l:List (Nat×Tr)} (h1:fr=fr') (h2:H=H'):awTs P N ops l fr H K=awTs P N ops l fr' H' K:=by rw [h1,h2]
end
attribute [congr] yzy yxw
attribute [go_sem] trD trP awT awTs Option.toList_some
section
variable (P:Program) (N:Nat) (ops:Array Oper) (base j:Nat) (fr:Fr) (H:Hp) (K:Fr->Hp->Prop)
structure V0 (d:Option Nat) (Hd:Hp) (r:List Oper) (bO bP:List (List Nat)) (g:Nat) (xs:List AV):Prop where
 out:EO P g xs Hd (base+j) (fun x=>awD P N ops base (j+1) r bO bP (fput fr d x) H K) (fun x ob=>awD P N ops base (j+1) r bO bP (fput fr d x) ((base+j,ob)::H) K)
def kQ (o:Oper) (r:List Oper) (bO bP:List (List Nat)) (p:Prop) (x:AV):Prop:=p/\awD P N ops base (j+1) r bO bP (fput fr o.dst x) H K
def kR (o:Oper) (r:List Oper) (bO:List (List Nat)) (dl:List Nat) (bP:List (List Nat)) (p:Prop) (x:AV):Prop:=(yav (dl.map (base+ ·)) H).all (fun q=>sO (yav (dl.map (base+ ·)) H) q.2)=true/\p/\awD P N ops base (j+1) r bO bP (fput fr o.dst x) H K
def kA (o:Oper) (r:List Oper) (bO bP:List (List Nat)) (p:Prop) (q:AV×AObj):Prop:=p/\awD P N ops base (j+1) r bO bP (fput fr o.dst q.1) ((base+j,q.2)::H) K
def kS (o:Oper) (r:List Oper) (bO bP:List (List Nat)) (p:Prop) (q:Nat×AObj):Prop:=p/\awD P N ops base (j+1) r bO bP (fput fr o.dst .any) (hset H q.1 q.2) K
def kI (o:Oper) (r:List Oper) (bO bP:List (List Nat)) (p:Prop) (q:Nat×Int×Int):Prop:=p/\awD P N ops base (j+1) r bO bP (fput fr o.dst .any) (insE H q.1 q.2.1 q.2.2) K
def kP (o:Oper) (r:List Oper) (bO bP:List (List Nat)) (p:Prop) (q:AV×Option Nat×AObj):Prop:=p/\awD P N ops base (j+1) r bO bP (fput fr o.dst q.1) ((base+j,q.2.2)::hgo H q.2.1) K
def kC (o:Oper) (r:List Oper) (bO:List (List Nat)) (dl:List Nat) (bP:List (List Nat)) (xs:List AV) (g:Nat) (cap:List AV):Prop:=(yav (dl.map (base+ ·)) H).all (fun q=>sO (yav (dl.map (base+ ·)) H) q.2)=true/\V0 P N ops base j fr H K o.dst (yav (dl.map (base+ ·)) H) r bO bP g (xs++cap)
def awDX (o:Oper) (r:List Oper) (ex:List Nat) (bO:List (List Nat)) (dl:List Nat) (bP:List (List Nat)):Prop:=match o.op with
 | .store t x y=>mO (stF P H t (evA (cz ex fr) x) (evA (cz ex fr) y)) (kS P N ops base j fr H K o r bO bP) False
 | .insert t m k v=>mO (inF P H t (evA (cz ex fr) m) (evA (cz ex fr) k) (evA (cz ex fr) v)) (kI P N ops base j fr H K o r bO bP) False
 | .call {callee:= .builtin .append,args:=args,argTypes:=ts}=>match args.toList,ts.toList with
   |[s,x],[t,t']=>t=t'/\mO (apG P (base+j) H t (evA (cz ex fr) s) (evA (cz ex fr) x)) (kP P N ops base j fr H K o r bO bP) False
   |_,_=>False
 | .call {callee:= .value f,args:=args, .. }=>mF (evA (pR (yav (dl.map (base+ ·)) H) (cz ex fr)) f) (kC P N ops base j fr H K o r bO dl bP (args.toList.map (evA (pR (yav (dl.map (base+ ·)) H) (cz ex fr)))))
 |_=>False
def awDn (o:Oper) (r:List Oper) (ex:List Nat) (bO:List (List Nat)) (dl:List Nat) (bP:List (List Nat)):Prop:=cvOk P o.op=true/\dok o.dst N=true/\if yc4 o.op then mO (quF P H (evA (cz ex fr)) o.op) (kQ P N ops base j fr H K o r bO bP) False
    else mO (quF P (yav (dl.map (base+ ·)) H) (evA (pR (yav (dl.map (base+ ·)) H) (cz ex fr))) o.op) (kR P N ops base j fr H K o r bO dl bP)
     (mO (alF P (base+j) (evA (cz ex fr)) o.op) (kA P N ops base j fr H K o r bO bP) (awDX P N ops base j fr H K o r ex bO dl bP))
theorem SZ (o:Oper) (r:List Oper) (ex:List Nat) (bO:List (List Nat)) (dl:List Nat) (bP:List (List Nat)):(awD.awDO P N base j o ex dl fr H fun fr' H'=>awD P N ops base (j+1) r bO bP fr' H' K)=awDn P N ops base j fr H K o r ex bO dl bP:=by
 unfold awD.awDO awDn awDX mO
 split
 ·rcases quF P H (evA (cz ex fr)) o.op with _|⟨p,r⟩<;>rfl
 ·rcases quF P (yav (dl.map (base+ ·)) H) (evA (pR (yav (dl.map (base+ ·)) H) (cz ex fr))) o.op with _|⟨p,r⟩
  ·rcases alF P (base+j) (evA (cz ex fr)) o.op with _|⟨p,r,ob⟩
   ·simp only;generalize o.op=op;cases op<;>try rfl
    case store t x y=>
     simp only;rcases stF P H t (evA (cz ex fr) x) (evA (cz ex fr) y) with _|⟨p,i,ob⟩<;>rfl
    case insert t m k v=>
     simp only;rcases inF P H t (evA (cz ex fr) m) (evA (cz ex fr) k) (evA (cz ex fr) v) with _|⟨p,i,n,x⟩<;>rfl
    case call c=>
     obtain ⟨callee,args,ts⟩:=c;cases callee<;>try rfl
     case builtin b=>
      cases b<;>try rfl
      generalize hl:args.toList=l1;generalize hm:ts.toList=l2;simp only [hl,hm]
      match l1,l2 with
      |[s,x],[t,t']=>
       simp only;rcases apG P (base+j) H t (evA (cz ex fr) s) (evA (cz ex fr) x) with _|⟨p,r,g,ob⟩<;>rfl
      |[],_=>rfl
      |[_],_=>rfl
      |_::_::_::_,_=>rfl
      |[_,_],[]=>rfl
      |[_,_],[_]=>rfl
      |[_,_],_::_::_::_=>rfl
     case value f=>
      simp only [mF,kC];cases evA (pR (yav (dl.map (base+ ·)) H) (cz ex fr)) f<;>first|rfl|(simp only [eq_iff_iff];exact ⟨fun h=>⟨h.1,h.2.1,h.2.2.1,⟨h.2.2.2⟩⟩,fun h=>⟨h.1,h.2.1,h.2.2.1,h.2.2.2.out⟩⟩)
   ·rfl
  ·rfl
def ou (c b:Bool) (o:Oper) (r:List Oper) (ex:List Nat) (bO:List (List Nat)) (dl:List Nat) (bP:List (List Nat)):Prop:=(c=b->awDn P N ops base j fr H K o r ex bO dl bP)/\(c= !b->dok o.dst N=true/\awD P N ops base (j+1) r bO bP (fput fr o.dst (.tup [])) H K)
section
variable (o:Oper) (r:List Oper) (ex:List Nat) (bO:List (List Nat)) (dl:List Nat) (bP:List (List Nat))
theorem y7x:ou P N ops base j fr H K true true o r ex bO dl bP=awDn P N ops base j fr H K o r ex bO dl bP:=by simp [ou]
theorem y7y:ou P N ops base j fr H K false false o r ex bO dl bP=awDn P N ops base j fr H K o r ex bO dl bP:=by simp [ou]
theorem y7z:ou P N ops base j fr H K true false o r ex bO dl bP=(dok o.dst N=true/\awD P N ops base (j+1) r bO bP (fput fr o.dst (.tup [])) H K):=by simp [ou]
theorem y70:ou P N ops base j fr H K false true o r ex bO dl bP=(dok o.dst N=true/\awD P N ops base (j+1) r bO bP (fput fr o.dst (.tup [])) H K):=by simp [ou]
end
def kG (b:Bool) (o:Oper) (r:List Oper) (ex:List Nat) (bO:List (List Nat)) (dl:List Nat) (bP:List (List Nat)) (c:Bool):Prop:=ou P N ops base j fr H K c b o r ex bO dl bP
def kZ (o:Oper) (r:List Oper) (bO bP:List (List Nat)) (_:Unit):Prop:=dok o.dst N=true/\awD P N ops base (j+1) r bO bP (fput fr o.dst (.tup [])) H K
theorem kZ_eq (o:Oper) (r:List Oper) (bO bP:List (List Nat)) (u:Unit):kZ P N ops base j fr H K o r bO bP u=(dok o.dst N=true/\awD P N ops base (j+1) r bO bP (fput fr o.dst (.tup [])) H K):=rfl
def awDg (o:Oper) (r:List Oper) (ex:List Nat) (bO:List (List Nat)) (dl:List Nat) (bP:List (List Nat)):Prop:=match o.guard with
 |none=>awDn P N ops base j fr H K o r ex bO dl bP
 |some (g,b)=>mG (gval ops (cz ex fr) g) (kG P N ops base j fr H K b o r ex bO dl bP) (kZ P N ops base j fr H K o r bO bP)
theorem kQ_eq (o:Oper) (r:List Oper) (bO bP:List (List Nat)) (p:Prop) (x:AV):kQ P N ops base j fr H K o r bO bP p x=(p/\awD P N ops base (j+1) r bO bP (fput fr o.dst x) H K):=rfl
theorem kR_eq (o:Oper) (r:List Oper) (bO:List (List Nat)) (dl:List Nat) (bP:List (List Nat)) (p:Prop) (x:AV):kR P N ops base j fr H K o r bO dl bP p x=((yav (dl.map (base+ ·)) H).all (fun q=>sO (yav (dl.map (base+ ·)) H) q.2)=true/\p/\awD P N ops base (j+1) r bO bP (fput fr o.dst x) H K):=rfl
theorem kA_eq (o:Oper) (r:List Oper) (bO bP:List (List Nat)) (p:Prop) (x:AV) (y:AObj):kA P N ops base j fr H K o r bO bP p (x,y)=(p/\awD P N ops base (j+1) r bO bP (fput fr o.dst x) ((base+j,y)::H) K):=rfl
theorem kS_eq (o:Oper) (r:List Oper) (bO bP:List (List Nat)) (p:Prop) (x:Nat) (y:AObj):kS P N ops base j fr H K o r bO bP p (x,y)=(p/\awD P N ops base (j+1) r bO bP (fput fr o.dst .any) (hset H x y) K):=rfl
theorem kI_eq (o:Oper) (r:List Oper) (bO bP:List (List Nat)) (p:Prop) x y z:kI P N ops base j fr H K o r bO bP p (x,y,z)=(p/\awD P N ops base (j+1) r bO bP (fput fr o.dst .any) (insE H x y z) K):=rfl
theorem kP_eq (o:Oper) (r:List Oper) (bO bP:List (List Nat)) (p:Prop) x y z:kP P N ops base j fr H K o r bO bP p (x,y,z)=(p/\awD P N ops base (j+1) r bO bP (fput fr o.dst x) ((base+j,z)::hgo H y) K):=rfl
theorem kC_eq (o:Oper) (r:List Oper) (bO:List (List Nat)) (dl:List Nat) (bP:List (List Nat)) (xs:List AV) (g:Nat) (cap:List AV):kC P N ops base j fr H K o r bO dl bP xs g cap=((yav (dl.map (base+ ·)) H).all (fun q=>sO (yav (dl.map (base+ ·)) H) q.2)=true/\V0 P N ops base j fr H K o.dst (yav (dl.map (base+ ·)) H) r bO bP g (xs++cap)):=rfl
theorem kG_eq (b:Bool) (o:Oper) (r:List Oper) (ex:List Nat) (bO:List (List Nat)) (dl:List Nat) (bP:List (List Nat)) (c:Bool):kG P N ops base j fr H K b o r ex bO dl bP c=(ou P N ops base j fr H K c b o r ex bO dl bP):=rfl
theorem y71 (e d:List (List Nat)):awD P N ops base j [] e d fr H K=K fr H:=by simp only [awD]
theorem y4m (o:Oper) (r:List Oper) (ex:List Nat) (bO:List (List Nat)) (dl:List Nat) (bP:List (List Nat)):awD P N ops base j (o::r) (ex::bO) (dl::bP) fr H K=awDg P N ops base j fr H K o r ex bO dl bP:=by
 unfold awDg mG kG ou kZ;simp only [awD];rcases o.guard with _|⟨g,b⟩
 ·exact SZ P N ops base j fr H K o r ex bO dl bP
 ·simp only;rcases gval ops (cz ex fr) g with _|_|_|_|_|(_|_)|_|_|_|_|_|_|_<;>first|rfl|(simp only [sY,SZ])
end
theorem ag {P:Program} {N:Nat} {ops:Array Oper} {base j:Nat} {fr:Fr} {H:Hp} {K:Fr->Hp->Prop} {c b:Bool} {o:Oper} {r:List Oper} {ex:List Nat} {bO:List (List Nat)} {dl:List Nat} {bP:List (List Nat)} (h1:c=b->awDn P N ops base j fr H K o r ex bO dl bP) (h2:c= !b->dok o.dst N=true/\awD P N ops base (j+1) r bO bP (fput fr o.dst (.tup [])) H K):ou P N ops base j fr H K c b o r ex bO dl bP:=⟨h1,h2⟩
section
variable {P:Program} {N base j:Nat} {fr fr':Fr} {H H':Hp}
theorem yzz {ops:Array Oper} {r:List Oper} {e d:List (List Nat)} {j':Nat} {K:Fr->Hp->Prop} (h0:j=j') (h1:fr=fr') (h2:H=H'):awD P N ops base j r e d fr H K=awD P N ops base j' r e d fr' H' K:=by rw [h0,h1,h2]
end
def scV (H:Hp) (x:AV):AV:=if s3 H x then x else .any
def QW (b:Bool) (x:AV):AV:=if b then .any else x
theorem y72 (H:Hp) (fr:Fr) (t:Nat):fget (pR H fr) t=scV H (fget fr t):=by
 induction fr with
 |nil=>rfl
 |cons p r ih=>
  obtain ⟨s,x⟩:=p;simp only [pR,fget];by_cases h:s=t
  ·simp [h,scV]
  ·simp only [h,if_false];exact ih
theorem y73 (ex:List Nat) (fr:Fr) (t:Nat):fget (cz ex fr) t=QW (ex.contains t) (fget fr t):=by rw [M5];rfl
theorem erV_t (x:AV):QW true x= .any:=rfl
theorem erV_f (x:AV):QW false x=x:=rfl
attribute [congr] yzz
attribute [go_sem] kZ_eq kQ_eq kR_eq kA_eq kS_eq kI_eq kP_eq kC_eq kG_eq sepF sep2 sepV bne_self_eq_false inF inK inO insE insO ye0 awDX awDn y7x y7y y7z y70 awDg y71 y4m
attribute [go_sem] yxu y72 y73 erV_t erV_f scV apG apG.n2E hgo yav yc4 loud List.contains_cons List.contains_nil beq_self_eq_true
attribute [go_sem] AObj.cells.injEq Cs.ints.injEq Cs.bools.injEq Cs.lst.injEq AV.int.injEq AV.sl.injEq AV.ro.injEq AV.ptr.injEq AV.agg.injEq AV.tup.injEq AV.str.injEq AV.rp.injEq AV.fn.injEq Prod.mk.injEq List.cons.injEq Int.natCast_add Int.natCast_one Int.natCast_zero Int.natCast_mul Nat.succ_eq_add_one zzF List.length_drop List.length_take
structure bE (x y:AV):Prop where
 out: ∀(w:World) (M:Nat->Prop) (ρ:Nat->Addr) (D:Nat->Prop) (v:Value),VR w M ρ D v x->VR w M ρ D v y
theorem bE.refl (x:AV):bE x x:=⟨fun _ _ _ _ _ h=>h⟩
theorem bE.of {x y:AV} (h:x=y):bE x y:=h▸bE.refl x
theorem bE.nils {es:Nat} {c:Cs} (he:0<es) (hc:c.len=0):bE .nils (.ro es 0 c):=⟨fun w M ρ D v h=>by
 have e:=h.cg;subst e;exact .ro es 0 c none 0 (fun _=>undef) (by simp [hc]) (zzA _) he (fun h=>by omega) (fun j hj=>by omega)⟩
theorem bE.agg {xs ys:List AV} (hl:xs.length=ys.length) (h: ∀(i:Nat) (x y:AV),xs[i]?=some x->ys[i]?=some y->bE x y):bE (.agg xs) (.agg ys):=⟨fun w M ρ D v hv=>by
 obtain ⟨vs,rfl,qA,hx⟩:=hv.bI;refine .agg vs ys (qA.trans hl) fun i v y hi hy=>?_;have aD:i<xs.length:=by
  have:=List.getElem?_eq_some_iff.1 hi;obtain ⟨h1,_⟩:=this;omega
 exact (h i xs[i] y (zzH aD) hy).out w M ρ D v (hx i v _ hi (zzH aD))⟩
theorem bE.tup {xs ys:List AV} (hl:xs.length=ys.length) (h: ∀(i:Nat) (x y:AV),xs[i]?=some x->ys[i]?=some y->bE x y):bE (.tup xs) (.tup ys):=⟨fun w M ρ D v hv=>by
 obtain ⟨vs,rfl,qA,hx⟩:=hv.ja;refine .tup vs ys (qA.trans hl) fun i v y hi hy=>?_;have aD:i<xs.length:=by
  have:=List.getElem?_eq_some_iff.1 hi;obtain ⟨h1,_⟩:=this;omega
 exact (h i xs[i] y (zzH aD) hy).out w M ρ D v (hx i v _ hi (zzH aD))⟩
inductive zy:List AV->List AV->Prop where
 |nil:zy [] []
 |cons {x y:AV} {xs ys:List AV}:bE x y->zy xs ys->zy (x::xs) (y::ys)
theorem zy.len {xs ys:List AV} (h:zy xs ys):xs.length=ys.length:=by
 induction h with
 |nil=>rfl
 |cons _ _ ih=>simp [ih]
theorem zy.get {xs ys:List AV} (h:zy xs ys): ∀(i:Nat) (x y:AV),xs[i]?=some x->ys[i]?=some y->bE x y:=by
 induction h with
 |nil=>intro i x y h;cases h
 |cons h1 _ ih=>
  intro i x y hx hy;cases i with
  |zero=>simp only [List.getElem?_cons_zero,Option.some.injEq] at hx hy;subst hx hy;exact h1
  |succ i=>exact ih i x y (by simpa using hx) (by simpa using hy)
theorem bE.sK {xs ys:List AV} (h:zy xs ys):bE (.agg xs) (.agg ys):= .agg h.len h.get
theorem bE.wU {xs ys:List AV} (h:zy xs ys):bE (.tup xs) (.tup ys):= .tup h.len h.get
section
variable {P:Program} {f:Nat} {args:List AV} {r r':AV}
def retL (P:Program) (rs:List ResultVar) (r:AV) (e:Exit) (fr:Fr) (H:Hp):Prop:=
 (e= .ret\/e= .normal)/\match resL P fr H rs with
 |some (p,l)=>p/\eT H 6 (yf7 l)/\bE (snap H 6 (yf7 l)) r
 |none=>False
theorem Fn.aG {fn:Func} {c:Code} (rs:List ResultVar) (hf:P.funcs[f]?=some fn) (hb:fn.body=some c) (CQ:fn.results.toList=rs) (hn:(fn.name== "runtime.NumGoroutine")=false) (hl:args.length<=fn.ntmps/\fn.ntmps<=1000000)
  (h:qj P fn.ntmps c (frOf 0 args) [] (retL P rs r)):Fn P f args r:=by
 subst CQ;refine ⟨⟨fn,hf,by rw [hb];rfl,hn⟩,fun w Mx vs pQ uE hv=>?_⟩
 have rY:aK w.heap.size ⟨w,fun _=>undef⟩ Mx 0 w ρ0 [] [] {tmps:= #[],defers:=[]}:=
  ⟨Below.refl _ _,zzA _,pQ.2,(fun id o h=>by cases h),(fun id o h=>by cases h),(fun id o _ _ h=>by cases h),fun t=> .any _,⟨rfl,fun _ hb=>pQ.1.later hb⟩,by simp,by omega⟩
 have QG:MM Mx [] ρ0=Mx:=by
  funext x;apply propext;constructor
  ·rintro (g|⟨id,o,g,_⟩)
   ·exact g
   ·cases g
  ·exact Or.inl
 have Qt:pS P f args [] [] (fun r' _ H'=>eT H' 6 r'/\bE (snap H' 6 r') r):=by
  refine ⟨.inl ⟨fn,c,hf,hb,hn,hl,?_⟩⟩;rw [show frOf 0 args++lft []=frOf 0 args by simp [lft]];refine h.mono fun e fr H hq=>⟨hq.1,?_⟩;have oY:=hq.2;revert oY;cases resL P fr H fn.results.toList with
  |none=>exact fun h=>h
  |some q=>exact fun h=>h
 obtain ⟨_,fy⟩:=Ko (P:=P) rY Qt uE (fun i v x g1 g2=>by rw [QG];exact (hv i v x g1 g2).D0);refine fy.mono ?_;rintro e w' ⟨v,r',ρ',fr',H',rfl,⟨hp,hle⟩,hs,CI⟩;exact ⟨v,rfl,hs.below,hle.out _ _ _ _ v (JB hs (My:=Mx) (ρ0:=ρ0) (fun _ h=>h) 6 v r' CI hp)⟩
end
attribute [go_sem] retL
end Go.Proofs.YtjpbeacamoijhaaGreatDoor
