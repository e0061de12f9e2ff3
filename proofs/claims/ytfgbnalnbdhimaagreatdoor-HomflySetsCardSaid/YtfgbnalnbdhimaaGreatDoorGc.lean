/- The author's own program logic: statements that draw their order; results told less exactly. -/
import Derived.Test.YtfgbnalnbdhimaaGreatDoorGb
set_option linter.unusedSimpArgs false
set_option linter.unusedVariables false
namespace Go.Proofs.YtfgbnalnbdhimaaGreatDoor
open Go Go.RowKit
section
variable {P:Program} {B:Nat} {w0:ybi} {Mx:Nat->Prop} {N:Nat} {w:World} {ρ:Nat->Addr} {fr:Fr} {H:Hp} {a:Act}
theorem Sim.join1 (h:Sim B w0 Mx N w ρ fr H a) {nid:Nat} (hn:hget H nid=none) {w1:ybi} {w':World} {ρ':Nat->Addr} {N0:Nat} {a0:Act} {M0:Nat->Prop} {t:Nat} {l:Cs} (hI: ∀j,j<l.len-> ∃k,l.get j=I k) (hw1:w1.w=w) (k:Sim w.heap.size w1 M0 N0 w' ρ' [] [(0, .cells t l)] a0):
  Sim B w0 Mx N w' (upd ρ nid (ρ' 0)) fr ((nid, .cells t l)::H) a/\ ∀v es n,VR w' (MM M0 [(0, .cells t l)] ρ') ρ' (DD [(0, .cells t l)]) v (.sl es 0 0 n)->VR w' (MM Mx ((nid, .cells t l)::H) (upd ρ nid (ρ' 0))) (upd ρ nid (ρ' 0)) (DD ((nid, .cells t l)::H)) v (.sl es nid 0 n):=by
 have hbel:=k.below
 rw [hw1] at hbel
 have hblk:w.heap.size<=(ρ' 0).block:=(k.own 0 _ rfl rfl).1
 have e0:upd ρ nid (ρ' 0) nid=ρ' 0:=by simp [upd]
 have e1: ∀i,i≠nid->upd ρ nid (ρ' 0) i=ρ i:=fun i hi=>by simp [upd,hi]
 have cs: ∀i o,hget ((nid, .cells t l)::H) i=some o->(i=nid/\o= .cells t l)\/(i≠nid/\hget H i=some o):=fun i o ho=>by
  simp only [hget] at ho
  by_cases e:nid=i
  ·rw [if_pos e] at ho;exact .inl ⟨e.symm,(Option.some.inj ho).symm⟩
  ·rw [if_neg e] at ho;exact .inr ⟨fun e'=>e e'.symm,ho⟩
 have hlt: ∀i o,hget H i=some o->i≠nid:=fun i o ho e=>by rw [e,hn] at ho;cases ho
 have hup: ∀i o,hget H i=some o->hget ((nid, .cells t l)::H) i=some o:=fun i o ho=>by
  simp only [hget];rw [if_neg (fun e=>hlt i o ho e.symm)];exact ho
 have hMo: ∀x,x<w.heap.size->MM Mx ((nid, .cells t l)::H) (upd ρ nid (ρ' 0)) x->MM Mx H ρ x:=fun x hx hm=>by
  rcases hm with g|⟨i,o,g1,g2,g3⟩
  ·exact .inl g
  ·rcases cs i o g1 with ⟨rfl,rfl⟩|⟨q1,q2⟩
   ·rw [e0] at g3;omega
   ·rw [e1 i q1] at g3;exact .inr ⟨i,o,q2,g2,g3⟩
 have hold: ∀{v:Value} {x:AV},VR w (MM Mx H ρ) ρ (DD H) v x->VR w' (MM Mx ((nid, .cells t l)::H) (upd ρ nid (ρ' 0))) (upd ρ nid (ρ' 0)) (DD ((nid, .cells t l)::H)) v x:=fun hv=>by
  refine hv.carry hbel.size (fun x hx hm=>⟨hbel.block x hx,fun g=>hm (hMo x hx g)⟩) (fun i hd=>?_)
  obtain ⟨o,ho⟩:=hd
  exact ⟨⟨o,hup i o ho⟩,e1 i (hlt i o ho),fun arr t ha=>⟨arr,(hbel.block _ (yaj ha)).trans ha,rfl⟩⟩
 have hobj:=k.objs 0 _ rfl
 obtain ⟨f1,arr,f2,f3,f4⟩:=hobj
 refine ⟨⟨h.below.trans (hbel.mono h.hB),Nat.le_trans h.hB hbel.size,fun x hx=>Nat.lt_of_lt_of_le (h.mx x hx) hbel.size,fun i o g1 g2=>?_,fun i o g1=>?_,fun i o i' o' g1 g2 g3 g4 g5=>?_,fun t=>hold (h.frv t),h.defers,h.size⟩,fun v es n hv=>?_⟩
 ·rcases cs i o g1 with ⟨rfl,rfl⟩|⟨q1,q2⟩
  ·rw [e0];exact ⟨Nat.le_trans h.hB hblk,fun hx=>by have:=h.mx _ hx;omega⟩
  ·rw [e1 i q1];exact h.own i o q2 g2
 ·rcases cs i o g1 with ⟨rfl,rfl⟩|⟨q1,q2⟩
  ·exact ⟨by rw [e0];exact f1,arr,by rw [e0];exact f2,by rw [e0];exact f3,fun j hj=>let ⟨u,hu,hx⟩:=f4 j hj;⟨u,by rw [e0];exact hu,by obtain ⟨k,e⟩:=hI j hj;rw [e] at hx⊢;obtain rfl:=VR.int_inv hx;exact .int _ _⟩⟩
  ·have hr:=h.objs i o q2
   cases o with
   |gone=>trivial
   |cells t c=>
    obtain ⟨f1,arr,f2,f3,f4⟩:=hr
    exact ⟨by rw [e1 i q1];exact f1,arr,by rw [e1 i q1];exact (hbel.block _ (yaj f2)).trans f2,by rw [e1 i q1];exact f3,fun j hj=>let ⟨u,hu,hx⟩:=f4 j hj;⟨u,by rw [e1 i q1];exact hu,hold hx⟩⟩
   |gmap t ck l=>
    obtain ⟨es,k1,k2,k3⟩:=hr
    exact ⟨es,by rw [e1 i q1];exact (hbel.block _ (yaj k1)).trans k1,k2,fun j e q he hl=>let ⟨g1,g2,g3⟩:=k3 j e q he hl;⟨g1,g2,hold g3⟩⟩
   |iter mid s sn la=>
    obtain ⟨k1,k2,k3⟩:=hr
    obtain ⟨om,hom⟩:=k1
    exact ⟨⟨om,hup mid om hom⟩,by rw [e1 i q1];exact k2,by rw [e1 i q1,e1 mid (hlt mid om hom)];exact (hbel.block _ (yaj k3)).trans k3⟩
   |imap t l=>
    obtain ⟨k0,es,ck,k1,k2,k3⟩:=hr
    exact ⟨k0,es,ck,by rw [e1 i q1];exact (hbel.block _ (yaj k1)).trans k1,k2,fun j e k x he hl=>let ⟨g1,g2,g3⟩:=k3 j e k x he hl;⟨g1,hold g2,g3⟩⟩
   |fmap t c=>
    obtain ⟨k0,es,ck,k1,k2⟩:=hr
    exact ⟨k0,es,ck,by rw [e1 i q1];exact (hbel.block _ (yaj k1)).trans k1,k2⟩
 ·have fresh: ∀i o,hget H i=some o->o.live=true->(ρ i).block<w.heap.size:=fun i o g1 g2=>by
   exact h.mm_lt _ (.inr ⟨i,o,g1,g2,rfl⟩)
  rcases cs i o g1 with ⟨rfl,rfl⟩|⟨q1,q2⟩
  ·rcases cs i' o' g3 with ⟨rfl,rfl⟩|⟨r1,r2⟩
   ·rfl
   ·rw [e0,e1 i' r1] at g5;have:=fresh i' o' r2 g4;omega
  ·rcases cs i' o' g3 with ⟨rfl,rfl⟩|⟨r1,r2⟩
   ·rw [e0,e1 i q1] at g5;have:=fresh i o q2 g2;omega
   ·rw [e1 i q1,e1 i' r1] at g5;exact h.inj i o i' o' q2 g2 r2 g4 g5
 ·cases hv with
  |sl _ _ _ _ cap hd hc arr t2 ad ha hb hr=>
   refine .sl es nid 0 n cap ⟨.cells t l,by simp [hget]⟩ hc arr t2 ad ?_ ?_ ?_
   ·rw [e0];exact ha
   ·rw [e0];exact hb
   ·rw [e0];exact hr
theorem yrl (h:Sim B w0 Mx N w ρ fr H a) {f:Nat} {xs:List AV} {nid:Nat} {K:AV->AObj->Prop} (hc:yub P f xs H nid K) {vs:List Value} (hl:vs.length=xs.length)
  (hv: ∀(i:Nat) (v:Value) (x:AV),vs[i]?=some v->xs[i]?=some x->VR w (MM Mx H ρ) ρ (DD H) v x):
  FnOk P f/\Calls P f vs.toArray w fun e w'=> ∃v es n t l ρ' M0,e= .returned v/\(∀j,j<l.len-> ∃k,l.get j=I k)/\K (.sl es nid 0 n) (.cells t l)/\Sim w.heap.size ⟨w,fun _=>undef⟩ M0 0 w' ρ' [] [(0, .cells t l)] {tmps:= #[],defers:=[]}/\VR w' (MM M0 [(0, .cells t l)] ρ') ρ' (DD [(0, .cells t l)]) v (.sl es 0 0 n):=by
 obtain ⟨es,n,t,l,hI,hor,hk⟩:=hc
 rcases hor with ⟨hp,hok,hfn⟩|⟨hs,hok,hfn⟩
 ·refine ⟨hok,(hfn w (MM Mx H ρ) vs ⟨h.good,h.mm_lt⟩ hl fun i v x h1 h2=>(hv i v x h1 h2).pure3 (List.all_eq_true.1 hp _ (List.mem_of_getElem? h2))).mono ?_⟩
  rintro e w' ⟨v,ρ',rfl,hs',hr⟩
  exact ⟨v,es,n,t,l,ρ',_,rfl,hI,hk,hs',hr⟩
 ·have hvs: ∀(i:Nat) (v:Value) (x:AV),vs[i]?=some v->(xs.map (snap H 6))[i]?=some x->VR w (fun _=>False) ρ0 (fun _=>False) v x:=fun i v x h1 h2=>by
   simp only [List.getElem?_map] at h2
   obtain ⟨x',g1,rfl⟩:=Option.map_eq_some_iff.1 h2
   exact yi5 h (fun _ h=>h.elim) 6 v x' (hv i v x' h1 g1) (hs _ (List.mem_of_getElem? g1))
  refine ⟨hok,(hfn w (fun _=>False) vs ⟨h.good,fun _ h=>h.elim⟩ (by simpa using hl) hvs).mono ?_⟩
  rintro e w' ⟨v,ρ',rfl,hs',hr⟩
  exact ⟨v,es,n,t,l,ρ',_,rfl,hI,hk,hs',hr⟩
end
theorem yo6 {ops:Array Oper} {es:Nat->Ent}: ∀(d j:Nat) (fr:Fr),frI ops es j fr (d+1)=fput (frI ops es j fr d) (yal ops (j+d)) (es (j+d)).val
 |0,j,fr=>rfl
 |d+1,j,fr=>by
  have:=yo6 (ops:=ops) (es:=es) d (j+1) (fput fr (yal ops j) (es j).val)
  simp only [frI] at this⊢
  rw [this,show j+1+d=j+(d+1) by omega]
theorem yr1 {base:Nat} {es:Nat->Ent}: ∀(d j:Nat) (H:Hp),hI base es j H (d+1)=(es (j+d)).eff (base+(j+d)) (hI base es j H d)
 |0,j,H=>rfl
 |d+1,j,H=>by
  have:=yr1 (base:=base) (es:=es) d (j+1) ((es j).eff (base+j) H)
  simp only [hI] at this⊢
  rw [this,show j+1+d=j+(d+1) by omega]
theorem yg1 {ops:Array Oper} {es:Nat->Ent} (fr:Fr): ∀k,frI ops es 0 fr k=frS ops es fr (fun _=>true) k
 |0=>rfl
 |k+1=>by rw [yo6,yg1 fr k];simp [frS]
theorem ylm {base:Nat} {es:Nat->Ent} (H:Hp): ∀k,hI base es 0 H k=hS base es H (fun _=>true) k
 |0=>rfl
 |k+1=>by rw [yr1,ylm H k];simp [hS]
def yg2 (ops:Array Oper) (E:Nat->Bool):Prop:= ∀j,E j=true-> ∀i∈ybb (ops.getD j default),E i=true
theorem yr2 {ops:Array Oper}: ∀(l:List Oper) (tab:List (List Nat)),l=ops.toList.drop tab.length->(∀k i,i∈tab.getD k []-> ∀E,yg2 ops E->(∀e∈ybb (ops.getD k default),E e=true)->E i=true)->
  ∀k i,i∈(ancs l tab).getD k []-> ∀E,yg2 ops E->(∀e∈ybb (ops.getD k default),E e=true)->E i=true
 |[],tab,_,h=>h
 |o::l,tab,hl,h=>by
  simp only [ancs]
  have hlt:tab.length<ops.size:=by
   have:=congrArg List.length hl;simp at this;omega
  have ho:o=ops.getD tab.length default:=by
   have:=congrArg (fun x=>x[0]?) hl
   simp [hlt] at this
   simpa [hlt] using this
  refine yr2 l _ ?_ ?_
  ·have:=congrArg List.tail hl
   simp only [List.tail_cons,List.tail_drop] at this
   rw [this];simp
  ·intro k i hi E hE hk
   by_cases hkt:k<tab.length
   ·have e:(tab++[((ybb o).flatMap fun i=>i::tab.getD i []).eraseDups]).getD k []=tab.getD k []:=by
     simp [List.getElem?_append_left hkt]
    rw [e] at hi
    exact h k i hi E hE hk
   ·by_cases hkk:k=tab.length
    ·subst hkk
     have e:(tab++[((ybb o).flatMap fun i=>i::tab.getD i []).eraseDups]).getD tab.length []=((ybb o).flatMap fun i=>i::tab.getD i []).eraseDups:=by simp
     rw [e,List.mem_eraseDups,List.mem_flatMap] at hi
     obtain ⟨x,hx,hxi⟩:=hi
     rw [ho] at hx
     have hEx:=hk x hx
     rcases List.mem_cons.1 hxi with rfl|hxi
     ·exact hEx
     ·exact h x i hxi E hE (hE x hEx)
    ·have e:(tab++[((ybb o).flatMap fun i=>i::tab.getD i []).eraseDups]).getD k []=[]:=by
      rw [List.getD_eq_getElem?_getD,List.getElem?_eq_none (by simp;omega)];rfl
     rw [e] at hi;cases hi
theorem yo7 {ops:Array Oper} {E:Nat->Bool} (hE:yg2 ops E) {k i:Nat} (hi:((ybc ops).getD k []).contains i=true) (hk: ∀e∈ybb (ops.getD k default),E e=true):E i=true:=
 yr2 ops.toList [] (by simp) (fun k i h=>by simp at h) k i (List.contains_iff_mem.1 hi) E hE hk
structure Chk (al ids:List Nat) (ops:Array Oper) (ex dl:List (List Nat)):Prop where
 sz:ops.size<=1000000
 slot: ∀i j,i<ops.size->j<ops.size->i≠j->((ybc ops).getD j []).contains i=true\/((ybc ops).getD i []).contains j=true\/ ∀d,yal ops i=some d->(ex.getD j []).contains d=true
 new: ∀i j,i<ops.size->j<ops.size->i<j->((ybc ops).getD j []).contains i=true\/(dl.getD j []).contains i=true
 lo: ∀i j,i<ops.size->j<ops.size->i≠j->ycf (ops.getD i default).op=false->loud (ops.getD i default).op=false->loud (ops.getD j default).op=true->((ybc ops).getD j []).contains i=true\/(yhn (ops.getD i default).op=true/\(dl.getD i []).contains i=true/\(farW ops i j=true\/farS ops al ids dl i j=true))
 lolo: ∀i j,i<ops.size->j<ops.size->i≠j->loud (ops.getD i default).op=true->loud (ops.getD j default).op=true->((ybc ops).getD j []).contains i=true\/((ybc ops).getD i []).contains j=true\/(ydp (ops.getD i default).op=true/\ydp (ops.getD j default).op=true)\/yes ops (ops.getD i default).op (ops.getD j default).op=true
 ins: ∀i j,i<ops.size->j<ops.size->i≠j->ydp (ops.getD i default).op=true->loud (ops.getD j default).op=true->ydp (ops.getD j default).op=true
 same: ∀i j,i<ops.size->j<ops.size->i≠j-> ∀d,yal ops i=some d->yal ops j=some d->((ybc ops).getD j []).contains i=true\/((ybc ops).getD i []).contains j=true
 lt: ∀i j,i<ops.size->j<ops.size->((ybc ops).getD j []).contains i=true->i<j
 elt: ∀j,j<ops.size-> ∀e∈ybb (ops.getD j default),e<j
theorem ywg {al ids:List Nat} {ops:Array Oper} {ex dl:List (List Nat)} (h:chkR al ids ops ex dl=true):Chk al ids ops ex dl:=by
 unfold chkR at h
 rw [Bool.and_eq_true,decide_eq_true_eq] at h
 obtain ⟨hsz,h⟩:=h
 have h0: ∀i j,i<ops.size->j<ops.size->_:=fun i j hi hj=>List.all_eq_true.1 (List.all_eq_true.1 h j (by simpa using hj)) i (by simpa using hi)
 simp only [Bool.and_eq_true,Bool.or_eq_true,beq_iff_eq,Bool.not_eq_true',decide_eq_true_eq,decide_eq_false_iff_not,bne_iff_ne,chkR.before0,List.all_eq_true] at h0
 refine ⟨hsz,fun i j hi hj hne=>?_,fun i j hi hj hlt=>?_,fun i j hi hj hne h1 h2 h3=>?_,fun i j hi hj hne h1 h2=>?_,fun i j hi hj hne h1 h2=>?_,fun i j hi hj hne d h1 h2=>?_,fun i j hi hj h1=>?_,fun j hj e he=>?_⟩
 ·have:=h0 i j hi hj
  rcases this.1.1 with g|g
  ·exact absurd g hne
  ·rcases g.1.1.1.1.1 with (g1|g1)|g1
   ·exact .inl g1
   ·exact .inr (.inl g1)
   ·refine .inr (.inr fun d hd=>?_)
    unfold yal at hd
    rw [hd] at g1;exact g1
 ·have:=h0 i j hi hj
  rcases this.1.1 with g|g
  ·omega
  ·rcases g.1.1.1.1.2 with (g1|g1)|g1
   ·exact .inl g1
   ·omega
   ·exact .inr g1
 ·have:=h0 i j hi hj
  rcases this.1.1 with g|g
  ·exact absurd g hne
  ·rcases g.1.1.1.2 with (((g1|g1)|g1)|g1)|g1
   ·rw [h1] at g1;cases g1
   ·rw [h3] at g1;cases g1
   ·exact .inl g1
   ·rw [h2] at g1;cases g1
   ·exact .inr ⟨g1.1.1,g1.1.2,g1.2⟩
 ·have:=h0 i j hi hj
  rcases this.1.1 with g|g
  ·exact absurd g hne
  ·rcases g.1.1.2 with ((((g1|g1)|g1)|g1)|g1)|g1
   ·rw [h1] at g1;cases g1
   ·rw [h2] at g1;cases g1
   ·exact .inl g1
   ·exact .inr (.inl g1)
   ·exact .inr (.inr (.inl g1))
   ·exact .inr (.inr (.inr g1))
 ·have:=h0 i j hi hj
  rcases this.1.1 with g|g
  ·exact absurd g hne
  ·rcases g.1.2 with (g1|g1)|g1
   ·rw [h1] at g1;cases g1
   ·rw [h2] at g1;cases g1
   ·exact g1
 ·have:=h0 i j hi hj
  unfold yal at h1 h2
  rcases this.1.1 with g|g
  ·exact absurd g hne
  ·rcases g.2 with ((g1|g1)|g1)|g1
   ·exact .inl g1
   ·exact .inr g1
   ·rw [h1,h2] at g1;exact absurd rfl g1
   ·rw [h1] at g1;cases g1
 ·have:=h0 i j hi hj
  rcases this.1.2 with g|g
  ·rw [h1] at g;cases g
  ·exact g
 ·exact (h0 j j hj hj).2 e he
def cntE (E:Nat->Bool):Nat->Nat
 |0=>0
 |k+1=>cntE E k+if E k then 1 else 0
theorem yr3 (E:Nat->Bool): ∀k,cntE E k<=k
 |0=>Nat.le_refl _
 |k+1=>by have:=yr3 E k;simp only [cntE];split<;>omega
theorem yki {E:Nat->Bool}: ∀k,cntE E k=k-> ∀i,i<k->E i=true
 |0,_,i,hi=>by omega
 |k+1,h,i,hi=>by
  have hk:=yr3 E k
  simp only [cntE] at h
  by_cases hE:E k=true
  ·rw [if_pos hE] at h
   by_cases e:i=k
   ·rw [e];exact hE
   ·exact yki k (by omega) i (by omega)
  ·rw [if_neg hE] at h;omega
theorem ykj {E E':Nat->Bool} {j:Nat} (h0:E j=false) (h1:E' j=true) (h: ∀i,i≠j->E' i=E i): ∀k,cntE E' k=cntE E k+if j<k then 1 else 0
 |0=>by simp [cntE]
 |k+1=>by
  have ih:=ykj h0 h1 h k
  simp only [cntE,ih]
  by_cases e:k=j
  ·subst e;simp [h0,h1]
  ·rw [h k e]
   generalize (if E k=true then 1 else 0)=z
   by_cases hjk:j<k
   ·rw [if_pos hjk,if_pos (show j<k+1 by omega)];omega
   ·rw [if_neg hjk,if_neg (show¬j<k+1 by omega)];omega
theorem ycp (n k:Nat):(Array.replicate n false).getD k false=false:=by by_cases hk:k<n<;>simp [hk]
section
variable {P:Program} {B:Nat} {w0:ybi} {Mx:Nat->Prop} {N:Nat} {ops:Array Oper} {base:Nat} {ex dl:List (List Nat)} {es:Nat->Ent} {fr0:Fr} {H0:Hp}
theorem ymp {E E':Nat->Bool} {j n:Nat} (hj:j<n) (h1:E' j=true) (h: ∀i,i≠j->E' i=E i) (hlast: ∀i,j<i->i<n->E i=true-> ∀d,yal ops i=some d->yal ops j≠some d) (t:Nat):
  fget (frS ops es fr0 E' n) t=fget (fput (frS ops es fr0 E n) (yal ops j) (es j).val) t:=by
 by_cases hd:yal ops j=some t
 ·have e2:fget (fput (frS ops es fr0 E n) (yal ops j) (es j).val) t=(es j).val:=by rw [hd];simp [fput,fget]
  rw [e2]
  have: ∀k,j<k->k<=n->fget (frS ops es fr0 E' k) t=(es j).val:=by
   intro k
   induction k with
   |zero=>intro h;omega
   |succ k ih=>
    intro hk hkn
    simp only [frS]
    by_cases e:k=j
    ·subst e;rw [if_pos h1,hd];simp [fput,fget]
    ·have ih':=ih (by omega) (by omega)
     split
     ·rename_i hE
      rw [h k e] at hE
      have hne:=hlast k (by omega) (by omega) hE
      cases hk':yal ops k with
      |none=>exact ih'
      |some d=>
       have:d≠t:=fun e'=>hne d hk' (by rw [hd,e'])
       simp only [fput,fget,this,if_false];exact ih'
     ·exact ih'
  exact this n hj (Nat.le_refl _)
 ·have e2:fget (fput (frS ops es fr0 E n) (yal ops j) (es j).val) t=fget (frS ops es fr0 E n) t:=by
   cases hk:yal ops j with
   |none=>rfl
   |some d=>simp only [fput,fget];rw [if_neg (fun e=>hd (by rw [hk,e]))]
  rw [e2]
  exact ygn n fun i _ hi=>h i (fun e=>hd (by rw [←e];exact hi))
theorem yr4 {H:Hp} {t:Nat} {m k v:AV} {p:Prop} {id:Nat} {n x:Int} (h:inF P H t m k v=some (p,id,n,x)) (hp:p):
  ∃kt et,tk P t= .map kt et/\tk P kt= .int .i64/\m= .mp id/\k= .int .i64 n/\v= .int .i64 x/\ ∃t' g,hget H id=some (.fmap t' (.ints g))/\g n=none:=by
 unfold inF at h
 split at h
 ·rename_i kt et htk
  unfold inK at h
  split at h
  ·rename_i hkt
   unfold inO at h
   split at h
   ·rename_i t' g hg
    cases h
    exact ⟨kt,et,htk,hkt,rfl,rfl,rfl,t',g,hg,hp⟩
   ·cases h
  ·cases h
 ·cases h
def kdO:Option AObj->Option Nat
 |some (.fmap t (.ints _))=>some t
 |_=>none
def kdI (H:Hp) (id:Nat):Option Nat:=kdO (hget H id)
def bdO (n:Int):Option AObj->Option Int
 |some (.fmap _ (.ints g))=>g n
 |_=>none
def bdI (H:Hp) (id:Nat) (n:Int):Option Int:=bdO n (hget H id)
theorem yz9 {H:Hp} {id t:Nat} (h:kdI H id=some t): ∃g,hget H id=some (.fmap t (.ints g)):=by
 unfold kdI kdO at h
 split at h
 ·rename_i t' g hg;cases h;exact ⟨g,hg⟩
 ·cases h
theorem ycs (H:Hp) (id':Nat) (n' x':Int) (i:Nat):hget (insE H id' n' x') i=if i=id' then (match hget H i with|some (.fmap t (.ints g))=>some (.fmap t (.ints (updI g n' x')))|q=>q) else hget H i:=by
 unfold insE insO
 by_cases e:i=id'
 ·subst e
  rw [if_pos rfl]
  split
  ·rename_i t g hg;rw [ya0 hg,hg]
  ·rename_i hno
   split
   ·rename_i t g hg;exact absurd hg (hno t g)
   ·rfl
 ·rw [if_neg e]
  split
  ·rw [yaf (Ne.symm e)]
  ·rfl
theorem ymq (H:Hp) (id':Nat) (n' x':Int) (id:Nat):kdI (insE H id' n' x') id=kdI H id:=by
 unfold kdI
 rw [ycs]
 split
 ·split
  ·rename_i t g hg;rw [hg];rfl
  ·rfl
 ·rfl
theorem y0a {H:Hp} {id t:Nat} {g:Int->Option Int} {n x:Int} (h:hget H id=some (.fmap t (.ints g))):bdI (insE H id n x) id n=some x:=by
 unfold bdI
 rw [ycs,if_pos rfl,h]
 simp [bdO,updI]
theorem y27 {H:Hp} {id id':Nat} {n n' x':Int} (h:(bdI H id n).isSome=true):(bdI (insE H id' n' x') id n).isSome=true:=by
 unfold bdI at h⊢
 rw [ycs]
 split
 ·split
  ·rename_i t g hg
   rw [hg] at h
   simp only [bdO,updI] at h⊢
   split
   ·rfl
   ·exact h
  ·exact h
 ·exact h
theorem ywh {H1 H2:Hp} {id id':Nat} {n n' x x':Int} (h: ∀i,hget H1 i=hget (insE H2 id n x) i) (hd:id'≠id\/n'≠n) (i:Nat):hget (insE H1 id' n' x') i=hget (insE (insE H2 id' n' x') id n x) i:=by
 rw [ycs H1,ycs (insE H2 id' n' x'),ycs H2 id' n' x',h i,ycs H2]
 by_cases e1:i=id
 ·by_cases e2:i=id'
  ·have hn:n'≠n:=by rcases hd with g|g<;>first|exact g|(exfalso;exact g (by omega))
   simp only [if_pos e1,if_pos e2]
   cases hq:hget H2 i with
   |none=>rfl
   |some ob=>
    cases ob with
    |fmap t c=>
     cases c with
     |ints g=>
      have:updI (updI g n x) n' x'=updI (updI g n' x') n x:=by
       funext q
       simp only [updI]
       by_cases q1:q=n'
       ·have q2:q≠n:=fun e=>hn (q1.symm.trans e)
        rw [if_pos q1,if_neg q2,if_pos q1]
       ·rw [if_neg q1]
        by_cases q2:q=n
        ·rw [if_pos q2,if_pos q2]
        ·rw [if_neg q2,if_neg q2,if_neg q1]
      simp only [this]
     |bools g=>rfl
     |pairs g=>rfl
    |_=>rfl
  ·simp only [if_pos e1,if_neg e2]
 ·by_cases e2:i=id'
  ·simp only [if_neg e1,if_pos e2]
  ·simp only [if_neg e1,if_neg e2]
theorem ycq (H:Hp) (id:Nat) (ob:AObj) (i:Nat):hget (hset H id ob) i=if id=i then (hget H i).map (fun _=>ob) else hget H i:=by
 by_cases e:id=i
 ·subst e
  rw [if_pos rfl]
  induction H with
  |nil=>rfl
  |cons q r ih=>
   obtain ⟨k,o⟩:=q
   simp only [hset,hget]
   by_cases e:k=id
   ·simp [e,hget]
   ·simp only [e,if_false,hget];exact ih
 ·rw [if_neg e,yaf e]
theorem yif (e:Ent) (nid:Nat) {H1 H2:Hp} {id:Nat} (h:hget H1 id=hget H2 id):hget (e.eff nid H1) id=hget (e.eff nid H2) id:=by
 cases e with
 |skip=>exact h
 |quiet r=>exact h
 |alloc r ob=>simp only [Ent.eff,hget];rw [h]
 |store i ob=>simp only [Ent.eff];rw [ycq,ycq,h]
 |app r g ob=>
  simp only [Ent.eff,hget]
  split
  ·rfl
  ·cases g with
   |none=>exact h
   |some i=>simp only [hgo];rw [ycq,ycq,h]
 |ins i n x=>simp only [Ent.eff];rw [ycs,ycs,h]
theorem y28 {ops:Array Oper} {es:Nat->Ent} {fr0:Fr} {d:Nat} (h:unw ops d=true) {E:Nat->Bool}: ∀k,k<=ops.size->fget (frS ops es fr0 E k) d=fget fr0 d:=by
 intro k
 induction k with
 |zero=>intro _;rfl
 |succ k ih=>
  intro hk
  have ihk:=ih (by omega)
  simp only [frS]
  split
  ·have hne:yal ops k≠some d:=by
    unfold unw at h
    have:=List.all_eq_true.1 h (ops.getD k default) (by
     have:ops.getD k default=ops[k]'(by omega):=by simp [show k<ops.size by omega]
     rw [this];simp)
    simpa [yal] using this
   cases hd:yal ops k with
   |none=>simp only [fput];exact ihk
   |some q=>
    simp only [fput,fget]
    rw [if_neg (fun e=>hne (by rw [hd,e]))];exact ihk
  ·exact ihk
theorem yr5 {ops:Array Oper} {es:Nat->Ent} {fr0:Fr} {i t a id:Nat} {x y:Operand} {z:AV} {p:Prop} {ob:AObj} {H:Hp} {l:List Nat} {op:Op} (ho:op= .store t x y) (ha:stP op=some a) (hu:unw ops a=true) (hst:stF P H t (evA (fer l (frS ops es fr0 (fun _=>true) i)) x) z=some (p,id,ob)) (hi:i<=ops.size:=by omega): ∃off,fget fr0 a= .ptr id off:=by
 subst ho
 cases x with
 |tmp d=>
  simp only [stP,Option.some.injEq] at ha
  subst ha
  simp only [evA] at hst
  split at hst
  ·rw [yfx] at hst
   split at hst
   ·simp [stF] at hst
   ·rw [y28 hu i hi] at hst
    unfold stF at hst
    split at hst
    ·rename_i id' off hq
     split at hst
     ·split at hst
      ·split at hst
       ·cases hst;exact ⟨off,hq⟩
       ·cases hst
      ·cases hst
     ·cases hst
    ·cases hst
  ·simp [stF] at hst
 |_=>simp [stP] at ha
theorem ywi {H1 H2:Hp} {t:Nat} {x y:AV} {p:Prop} {id:Nat} {ob:AObj} (h:stF P H2 t x y=some (p,id,ob)) (e:hget H1 id=hget H2 id):stF P H1 t x y=stF P H2 t x y:=by
 unfold stF at h⊢
 cases x with
 |ptr i off=>
  simp only at h⊢
  have:i=id:=by
   split at h
   ·split at h
    ·split at h
     ·cases h;rfl
     ·cases h
    ·cases h
   ·cases h
  subst this
  rw [e]
 |_=>rfl
theorem yr6 {P:Program} {nid:Nat} {ev:Operand->AV} {op:Op} {r:AV} {ob:AObj} (h:yhn op=true) (p:Prop): ¬alF P nid ev op=some (p,r,ob):=by
 intro h1
 unfold yhn at h
 split at h
 ·cases h1
 ·cases h1
 ·cases h
theorem y29 {ops:Array Oper} {es:Nat->Ent} {fr0:Fr} {a k:Nat} (hk:yal ops k=some a) (hu: ∀q,q<ops.size->q≠k->yal ops q≠some a): ∀i,k<i->i<=ops.size->fget (frS ops es fr0 (fun _=>true) i) a=(es k).val:=by
 intro i
 induction i with
 |zero=>intro h;omega
 |succ i ih=>
  intro hki his
  simp only [frS,if_true]
  by_cases e:i=k
  ·subst e;rw [hk];simp [fput,fget]
  ·have ih':=ih (by omega) (by omega)
   have hne:=hu i (by omega) e
   cases hd:yal ops i with
   |none=>exact ih'
   |some d=>
    simp only [fput,fget]
    rw [if_neg (fun e'=>hne (by rw [hd,e']))];exact ih'
theorem y5m {al ids:List Nat} (hc:Chk al ids ops ex dl) (hes: ∀j,j<ops.size->es j= .skip\/ydq P ops base ex dl j (ops.getD j default) (frS ops es fr0 (fun _=>true) j) (hS base es H0 (fun _=>true) j) (es j)) {i j:Nat} (hi:i<ops.size) (hl:(es i).isLd=true) (hf:farW ops j i=true): ∃id ob,es i= .store id ob/\base+j<id:=by
 unfold farW at hf
 split at hf
 case h_2=>cases hf
 rename_i t a y hop
 obtain ⟨k,hk1,hk2⟩:=List.any_eq_true.1 hf
 simp only [Bool.and_eq_true,decide_eq_true_eq,beq_iff_eq,List.all_eq_true,List.mem_range,Bool.or_eq_true,bne_iff_ne] at hk2
 obtain ⟨⟨⟨⟨k1,k2⟩,k3⟩,k4⟩,k5⟩:=hk2
 have hks:k<ops.size:=List.mem_range.1 hk1
 have hki:=hc.lt k i hks hi k2
 have hfr:=y29 (es:=es) (fr0:=fr0) (a:=a) (k:=k) k3 (fun q hq hne=>by
  rcases k5 q hq with g|g
  ·exact absurd g hne
  ·exact g) i hki (by omega)
 have hei:=(hes i hi).resolve_left (by intro h;rw [h] at hl;cases hl)
 cases he:es i with
 |skip=>rw [he] at hl;cases hl
 |quiet r=>rw [he] at hl;cases hl
 |alloc r ob=>rw [he] at hl;cases hl
 |app r g ob=>
  rw [he] at hei
  obtain ⟨_,_,_,s,x,t',p,ho,_⟩:=hei
  rw [hop] at ho;cases ho
 |ins id n x=>
  rw [he] at hei
  obtain ⟨_,_,_,t',m,k',v,p,ho,_⟩:=hei
  rw [hop] at ho;cases ho
 |store id ob=>
  rw [he] at hei
  obtain ⟨_,_,_,t',x',y',p,ho,hst,_⟩:=hei
  rw [hop] at ho
  cases ho
  refine ⟨id,ob,rfl,?_⟩
  have hv:(es k).val= .tup []\/(es k).val= .ptr (base+k) 0:=by
   have hal: ∃e,(ops.getD k default).op= .alloc e:=by
    unfold yr0 at k4
    split at k4
    ·rename_i e ho;exact ⟨e,ho⟩
    ·cases k4
   obtain ⟨e,hal⟩:=hal
   rcases hes k hks with h|h
   ·left;rw [h];rfl
   ·cases hk:es k with
    |skip=>left;rfl
    |quiet r=>
     rw [hk] at h
     obtain ⟨_,_,h3⟩:=h
     rcases h3 with ⟨h3,_⟩|⟨_,_,_,h3⟩
     ·rw [hal] at h3;cases h3
     ·rcases h3 with ⟨p,h3,_⟩|⟨f,args,ts,g,cap,h3,_⟩
      ·rw [hal] at h3;cases h3
      ·rw [hal] at h3;cases h3
    |alloc r ob'=>
     rw [hk] at h
     obtain ⟨_,_,_,h3⟩:=h
     rcases h3 with ⟨p,h3,_⟩|⟨_,_,f,args,ts,g,cap,h3,_⟩
     ·rw [hal] at h3
      simp only [alF] at h3
      split at h3
      ·cases h3;right;rfl
      ·cases h3
     ·rw [hal] at h3;cases h3
    |app r g ob'=>
     rw [hk] at h
     obtain ⟨_,_,_,s,x,t',p,ho,_⟩:=h
     rw [hal] at ho;cases ho
    |ins id' n x=>
     rw [hk] at h
     obtain ⟨_,_,_,t',m,k',v,p,ho,_⟩:=h
     rw [hal] at ho;cases ho
    |store id' ob'=>
     rw [hk] at h
     obtain ⟨_,_,_,t',x',y',p,ho,_⟩:=h
     rw [hal] at ho;cases ho
  generalize evA (fer (exOf ex i) (frS ops es fr0 (fun _=>true) i)) y=z at hst
  simp only [evA] at hst
  split at hst
  ·rw [yfx] at hst
   split at hst
   ·simp [stF] at hst
   ·rw [hfr] at hst
    rcases hv with hv|hv<;>rw [hv] at hst
    ·simp [stF] at hst
    ·simp only [stF] at hst
     split at hst
     ·split at hst
      ·split at hst
       ·cases hst;omega
       ·cases hst
      ·cases hst
     ·cases hst
  ·simp [stF] at hst
theorem y0b {ops:Array Oper} {es:Nat->Ent} {fr0:Fr} {a:Nat} (hu: ∀q,q<ops.size->yal ops q≠some a): ∀i,i<=ops.size->fget (frS ops es fr0 (fun _=>true) i) a=fget fr0 a:=by
 intro i
 induction i with
 |zero=>intro _;rfl
 |succ i ih=>
  intro his
  simp only [frS,if_true]
  have ih':=ih (by omega)
  have hne:=hu i (by omega)
  cases hd:yal ops i with
  |none=>exact ih'
  |some d=>
   simp only [fput,fget]
   rw [if_neg (fun e'=>hne (by rw [hd,e']))];exact ih'
theorem y3a {al ids:List Nat} (hes: ∀j,j<ops.size->es j= .skip\/ydq P ops base ex dl j (ops.getD j default) (frS ops es fr0 (fun _=>true) j) (hS base es H0 (fun _=>true) j) (es j)) (hres: ∀a,al.contains a=true-> ∃id off,fget fr0 a= .ptr id off/\ids.contains id=true) {i j:Nat} (hi:i<ops.size) (hl:(es i).isLd=true) (hf:farS ops al ids dl j i=true): ∃id ob,es i= .store id ob/\(dlOf base dl j).contains id=true:=by
 unfold farS at hf
 simp only [Bool.and_eq_true,decide_eq_true_eq] at hf
 obtain ⟨⟨_,hf⟩,hd⟩:=hf
 split at hf
 case h_2=>cases hf
 rename_i t a y hop
 simp only [Bool.and_eq_true,List.all_eq_true,List.mem_range,bne_iff_ne] at hf
 obtain ⟨hal,hno⟩:=hf
 obtain ⟨id0,off,e1,e2⟩:=hres a hal
 have hfr:=y0b (es:=es) (fr0:=fr0) (a:=a) (fun q hq=>hno q hq) i (by omega)
 have hid:(dlOf base dl j).contains id0=true:=by
  have:=List.all_eq_true.1 hd id0 (List.contains_iff_mem.1 e2)
  rw [List.contains_iff_mem] at this⊢
  exact List.mem_map.2 ⟨_,this,y67⟩
 have hei:=(hes i hi).resolve_left (by intro h;rw [h] at hl;cases hl)
 cases he:es i with
 |skip=>rw [he] at hl;cases hl
 |quiet r=>rw [he] at hl;cases hl
 |alloc r ob=>rw [he] at hl;cases hl
 |app r g ob=>
  rw [he] at hei
  obtain ⟨_,_,_,s,x,t',p,ho,_⟩:=hei
  rw [hop] at ho;cases ho
 |ins id n x=>
  rw [he] at hei
  obtain ⟨_,_,_,t',m,k',v,p,ho,_⟩:=hei
  rw [hop] at ho;cases ho
 |store id ob=>
  rw [he] at hei
  obtain ⟨_,_,_,t',x',y',p,ho,hst,_⟩:=hei
  rw [hop] at ho
  cases ho
  refine ⟨id,ob,rfl,?_⟩
  generalize evA (fer (exOf ex i) (frS ops es fr0 (fun _=>true) i)) y=z at hst
  simp only [evA] at hst
  split at hst
  ·rw [yfx] at hst
   split at hst
   ·simp [stF] at hst
   ·rw [hfr,e1] at hst
    simp only [stF] at hst
    split at hst
    ·split at hst
     ·split at hst
      ·cases hst;exact hid
      ·cases hst
     ·cases hst
    ·cases hst
  ·simp [stF] at hst
theorem yi9 {E:Nat->Bool} (hb: ∀i,base<=i->hget H0 i=none): ∀k id,(∀i,i<k->E i=true->(es i).isLd=true-> ∃id' ob,es i= .store id' ob/\id'≠id)->hget (hS base es H0 E k) id=
  (if base<=id/\id-base<k/\E (id-base)=true/\(isAl (es (id-base))).isSome=true then isAl (es (id-base)) else hget H0 id):=by
 intro k id h
 have h0: ∀q,q<=k->hget (hS base es H0 E q) id=hget (hS base es H0 (fun i=>E i&& !(es i).isLd) q) id:=by
  intro q
  induction q with
  |zero=>intro _;rfl
  |succ q ih=>
   intro hq
   have ihq:=ih (by omega)
   simp only [hS]
   by_cases hE:E q=true
   ·rw [if_pos hE]
    by_cases hl:(es q).isLd=true
    ·obtain ⟨id',ob,he,hle⟩:=h q (by omega) hE hl
     rw [if_neg (by rw [hl];simp),he]
     simp only [Ent.eff]
     rw [yaf hle]
     exact ihq
    ·rw [if_pos (by simp [hE,hl])]
     exact yif _ _ ihq
   ·rw [if_neg hE,if_neg (by simp [hE])]
    exact ihq
 rw [h0 k (Nat.le_refl _),yll hb k (fun i hi hE=>by simpa using (Bool.and_eq_true_iff.1 hE).2)]
 by_cases c:base<=id/\id-base<k/\E (id-base)=true/\(isAl (es (id-base))).isSome=true
 ·have hl:(es (id-base)).isLd=false:=by
   have:=c.2.2.2
   cases hq:es (id-base)<;>rw [hq] at this<;>first|rfl|(simp [isAl] at this)
  rw [if_pos c,if_pos ⟨c.1,c.2.1,by simp [c.2.2.1,hl],c.2.2.2⟩]
 ·rw [if_neg c,if_neg (fun c'=>c ⟨c'.1,c'.2.1,(Bool.and_eq_true_iff.1 c'.2.2.1).1,c'.2.2.2⟩)]
theorem ywj {al ids:List Nat} (hres: ∀a,al.contains a=true-> ∃id off,fget fr0 a= .ptr id off/\ids.contains id=true) (hc:Chk al ids ops ex dl) (hsep: ∀i j a b,i<ops.size->j<ops.size->i≠j->((ybc ops).getD j []).contains i=false->((ybc ops).getD i []).contains j=false->stP (ops.getD i default).op=some a->stP (ops.getD j default).op=some b->unw ops a=true->unw ops b=true->a≠b->sep2 fr0 a b=true) (hb: ∀i,base<=i->hget H0 i=none) (hes: ∀j,j<ops.size->es j= .skip\/ydq P ops base ex dl j (ops.getD j default) (frS ops es fr0 (fun _=>true) j) (hS base es H0 (fun _=>true) j) (es j))
  {E:Nat->Bool} (hE:yg2 ops E) (hEn: ∀i,E i=true->i<ops.size) {j:Nat} (hj:j<ops.size) (hdk:dok (yal ops j) N=true) (hent:ydq P ops base ex dl j (ops.getD j default) (frS ops es fr0 (fun _=>true) j) (hS base es H0 (fun _=>true) j) (es j)) (hEj:E j=false) (hr: ∀e∈ybb (ops.getD j default),E e=true) {w:World} {ρ:Nat->Addr} {a:Act}
  (hs:Sim B w0 Mx N w ρ (frS ops es fr0 E ops.size) (hS base es H0 E ops.size) a) {E':Nat->Bool} (h1:E' j=true) (h2: ∀i,i≠j->E' i=E i) (Q:Exit->Act->World->Prop) (K:Act->World->Prop)
  (hK: ∀a' w' ρ',Sim B w0 Mx N w' ρ' (frS ops es fr0 E' ops.size) (hS base es H0 E' ops.size) a'->K a' w'):wpOp P ops Q j K a w:=by
 have hoj:ops[j]?=some (ops.getD j default):=by simp [hj]
 have hdst:(ops.getD j default).dst=yal ops j:=rfl
 generalize hog:ops.getD j default=o at*
 have hanc: ∀i,((ybc ops).getD j []).contains i=true->E i=true:=fun i hi=>yo7 hE hi (by rw [hog];exact hr)
 have hdesc: ∀i,((ybc ops).getD i []).contains j=true->E i=false:=fun i hi=>by
  cases hEi:E i with
  |false=>rfl
  |true=>have:=yo7 hE hi (hE i hEi);rw [hEj] at this;cases this
 have hlast: ∀i,j<i->i<ops.size->E i=true-> ∀d,yal ops i=some d->yal ops j≠some d:=fun i hji hin hEi d hd1 hd2=>by
  rcases hc.same i j hin hj (by omega) d hd1 hd2 with g|g
  ·have:=hc.lt i j hin hj g;omega
  ·rw [hdesc i g] at hEi;cases hEi
 have hfr:=ymp (es:=es) (fr0:=fr0) hj h1 h2 hlast
 have hfw: ∀t,fget (fer (exOf ex j) (frS ops es fr0 (fun _=>true) j)) t= .any\/fget (fer (exOf ex j) (frS ops es fr0 (fun _=>true) j)) t=fget (frS ops es fr0 E ops.size) t:=fun t=>by
  rw [yfx]
  by_cases hx:(exOf ex j).contains t=true
  ·rw [if_pos hx];exact .inl rfl
  ·rw [if_neg hx]
   right
   rw [←ywf (ops:=ops) (es:=es) (fr0:=fr0) (j:=j) (E:=fun i=>decide (i<j)) (fun _=>rfl) ops.size (by omega)]
   refine ygn ops.size fun i hi hd=>?_
   by_cases e:i=j
   ·subst e;simp [hEj]
   ·rcases hc.slot i j hi hj e with g|g|g
    ·have:=hc.lt i j hi hj g;simp [this,hanc i g]
    ·have:=hc.lt j i hj hi g;simp [show¬i<j by omega,hdesc i g]
    ·exact absurd (g t hd) hx
 have hsw:=hs.slots hfw
 have hwant:yfy ops o (fer (exOf ex j) (frS ops es fr0 (fun _=>true) j))->Region.wanted o (yielded ops a.tmps)=true:=fun hw=>by
  rcases hw with hg|⟨g,b,hg,hv⟩
  ·simp [Region.wanted,hg]
  ·simp [Region.wanted,hg,ye9 hsw hv]
 unfold wpOp
 rw [hoj]
 simp only
 have hal0: ∀i k,i<ops.size->k<ops.size->i≠k->loud (ops.getD k default).op=true->(∃r ob,es i= .alloc r ob)->((ybc ops).getD k []).contains i=true:=fun i k hi hk hne hlk ⟨r,ob,he⟩=>by
  have hei:=hes i hi
  replace hei:=hei.resolve_left (by rw [he];intro h;cases h)
  rw [he] at hei
  rcases hc.lo i k hi hk hne hei.2.1 hei.2.2.1 hlk with g|⟨g1,g2,g3⟩
  ·exact g
  ·exfalso
   rcases hei.2.2.2 with ⟨p,hal,_⟩|⟨h4,_⟩
   ·exact absurd hal (yr6 g1 p)
   ·have:(dlOf base dl i).contains (base+i)=true:=by
     rw [List.contains_iff_mem] at g2⊢
     exact List.mem_map.2 ⟨i,g2,yuh (by have:=hc.sz;omega)⟩
    rw [this] at h4;cases h4
 have hnost:ycf o.op=false->loud o.op=false->(∀x,x<base+j+1->(yhn o.op=true->(dlOf base dl j).contains x=false)-> ∀i,i<ops.size->E i=true->(es i).isLd=true-> ∃id ob,es i= .store id ob/\id≠x)/\ ∀i,i<j->(es i).isLd=false:=fun hsil hl=>by
  have key: ∀i,i<ops.size->(es i).isLd=true->(((ybc ops).getD i []).contains j=true\/(yhn o.op=true/\(farW ops j i=true\/farS ops al ids dl j i=true)/\j<i))/\i≠j:=fun i hi he=>by
   have hei:=hes i hi
   have hli:loud (ops.getD i default).op=true:=by
    cases hk:es i with
    |store id ob=>replace hei:=hei.resolve_left (by rw [hk];intro h;cases h);rw [hk] at hei;exact hei.2.2.1
    |app r g ob=>replace hei:=hei.resolve_left (by rw [hk];intro h;cases h);rw [hk] at hei;exact hei.2.2.1
    |ins id n x=>replace hei:=hei.resolve_left (by rw [hk];intro h;cases h);rw [hk] at hei;exact hei.2.2.1
    |_=>rw [hk] at he;cases he
   have hne:i≠j:=fun e=>by subst e;rw [hog,hl] at hli;cases hli
   refine ⟨?_,hne⟩
   rcases hc.lo j i hj hi (Ne.symm hne) (by rw [hog];exact hsil) (by rw [hog];exact hl) hli with g|⟨g0,_,g⟩
   ·exact .inl g
   ·rw [hog] at g0
    refine .inr ⟨g0,g,?_⟩
    rcases g with g'|g'
    ·unfold farW at g'
     split at g'
     ·obtain ⟨k,hk1,hk2⟩:=List.any_eq_true.1 g'
      simp only [Bool.and_eq_true,decide_eq_true_eq] at hk2
      have:=hc.lt k i (List.mem_range.1 hk1) hi hk2.1.1.1.2
      omega
     ·cases g'
    ·unfold farS at g'
     simp only [Bool.and_eq_true,decide_eq_true_eq] at g'
     exact g'.1.1
  refine ⟨fun x hx hxd i hi hEi he=>?_,fun i hij=>?_⟩
  ·rcases (key i hi he).1 with g|⟨g0,g|g,_⟩
   ·have:=hdesc i g;rw [hEi] at this;cases this
   ·obtain ⟨id,ob,e1,e2⟩:=y5m hc hes hi he g
    exact ⟨id,ob,e1,by omega⟩
   ·obtain ⟨id,ob,e1,e2⟩:=y3a hes hres hi he g
    refine ⟨id,ob,e1,fun e=>?_⟩
    subst e
    rw [hxd g0] at e2;cases e2
  ·cases he:(es i).isLd with
   |false=>rfl
   |true=>
    rcases (key i (by omega) he).1 with g|⟨_,_,g⟩
    ·have:=hc.lt j i hj (by omega) g;omega
    ·omega
 have hloud:loud o.op=true->ydp o.op=false->stP o.op=none->hS base es H0 E ops.size=hS base es H0 (fun _=>true) j/\hS base es H0 E' ops.size=(es j).eff (base+j) (hS base es H0 (fun _=>true) j):=fun hl hni hnp=>by
  have key: ∀i,i<ops.size->i≠j->(∀H,(es i).eff (base+i) H=H)\/(E i=true/\i<j)\/(E i=false/\j<i):=fun i hi e=>by
   have hei:=hes i hi
   cases hk:es i with
   |skip=>left;intro H;rfl
   |quiet r=>left;intro H;rfl
   |alloc r ob'=>
    replace hei:=hei.resolve_left (by rw [hk];intro h;cases h);rw [hk] at hei
    have:=hal0 i j hi hj e (by rw [hog];exact hl) ⟨_,_,hk⟩
    exact .inr (.inl ⟨hanc i this,hc.lt i j hi hj this⟩)
   |store id' ob'=>
    replace hei:=hei.resolve_left (by rw [hk];intro h;cases h);rw [hk] at hei
    rcases hc.lolo i j hi hj e hei.2.2.1 (by rw [hog];exact hl) with g|g|g|g
    ·exact .inr (.inl ⟨hanc i g,hc.lt i j hi hj g⟩)
    ·exact .inr (.inr ⟨hdesc i g,hc.lt j i hj hi g⟩)
    ·rw [hog,hni] at g;cases g.2
    ·unfold yes at g
     rw [hog,hnp] at g
     unfold yey at g
     split at g
     ·rename_i h';cases h'
     ·cases g
   |app r g' ob'=>
    replace hei:=hei.resolve_left (by rw [hk];intro h;cases h);rw [hk] at hei
    rcases hc.lolo i j hi hj e hei.2.2.1 (by rw [hog];exact hl) with g|g|g|g
    ·exact .inr (.inl ⟨hanc i g,hc.lt i j hi hj g⟩)
    ·exact .inr (.inr ⟨hdesc i g,hc.lt j i hj hi g⟩)
    ·rw [hog,hni] at g;cases g.2
    ·unfold yes at g
     rw [hog,hnp] at g
     unfold yey at g
     split at g
     ·rename_i h';cases h'
     ·cases g
   |ins id' n' x'=>
    replace hei:=hei.resolve_left (by rw [hk];intro h;cases h);rw [hk] at hei
    rcases hc.lolo i j hi hj e hei.2.2.1 (by rw [hog];exact hl) with g|g|g|g
    ·exact .inr (.inl ⟨hanc i g,hc.lt i j hi hj g⟩)
    ·exact .inr (.inr ⟨hdesc i g,hc.lt j i hj hi g⟩)
    ·rw [hog,hni] at g;cases g.2
    ·unfold yes at g
     rw [hog,hnp] at g
     unfold yey at g
     split at g
     ·rename_i h';cases h'
     ·cases g
  refine ⟨?_,?_⟩
  ·rw [←yuj (base:=base) (es:=es) (H0:=H0) (j:=j) (E:=fun i=>decide (i<j)) (fun _=>rfl) ops.size (by omega)]
   refine yeh ops.size fun i hi=>?_
   by_cases e:i=j
   ·subst e;right;simp [hEj]
   ·rcases key i hi e with g|⟨g1,g2⟩|⟨g1,g2⟩
    ·exact .inl g
    ·right;simp [g1,g2]
    ·right;simp [g1,show¬i<j by omega]
  ·have e1:hS base es H0 (fun _=>true) (j+1)=(es j).eff (base+j) (hS base es H0 (fun _=>true) j):=by simp [hS]
   rw [←e1,←yuj (base:=base) (es:=es) (H0:=H0) (j:=j+1) (E:=fun i=>decide (i<j+1)) (fun _=>rfl) ops.size (by omega)]
   refine yeh ops.size fun i hi=>?_
   by_cases e:i=j
   ·subst e;right;simp [h1]
   ·rw [h2 i e]
    rcases key i hi e with g|⟨g1,g2⟩|⟨g1,g2⟩
    ·exact .inl g
    ·right;simp [g1,show i<j+1 by omega]
    ·right;simp [g1,show¬i<j+1 by omega]
 cases hej:es j with
 |skip=>
  rw [hej] at hent
  obtain ⟨g,b,hg,hv⟩:=hent
  have hw: ¬Region.wanted o (yielded ops a.tmps)=true:=by
   rcases hv with hv|hv
   ·have hy:=ye9 hsw hv
    simp [Region.wanted,hg,hy]
   ·have hy:=yhl hsw hv
    simp [Region.wanted,hg,hy]
  rw [if_neg hw]
  refine hK _ _ ρ ((hs.put (d:=o.dst) (by rw [hdst];exact hdk) (.tup [] [] rfl (fun i v x h=>by simp at h))).congr (fun t=>by rw [hfr t,hdst,hej];rfl) (fun i=>?_))
  rw [yeh (E:=E') (E':=E) ops.size fun i _=>by
   by_cases e:i=j
   ·left;subst e;intro H;rw [hej];rfl
   ·right;exact h2 i e]
 |quiet r=>
  rw [hej] at hent
  obtain ⟨hw,hcv,hq⟩:=hent
  have hcv': ∀s d x,o.op= .convert s d x-> ∃e,P.underlying s=some e:=fun s d x ho=>by
   rw [ho] at hcv
   simp only [cvOk] at hcv
   cases hu:P.underlying s with
   |some e=>exact ⟨e,rfl⟩
   |none=>simp [tk,hu] at hcv
  have hHE:hS base es H0 E' ops.size=hS base es H0 E ops.size:=yeh ops.size fun i _=>by
   by_cases e:i=j
   ·left;subst e;intro H;rw [hej];rfl
   ·right;exact h2 i e
  have hfin: ∀(w':World) (v:Value),Sim B w0 Mx N w' ρ (frS ops es fr0 E ops.size) (hS base es H0 E ops.size) a->VR w' (MM Mx (hS base es H0 E ops.size) ρ) ρ (DD (hS base es H0 E ops.size)) v r->K (a.put o.dst v) w':=fun w' v hs' hv=>
   hK _ _ ρ ((hs'.put (d:=o.dst) (by rw [hdst];exact hdk) hv).congr (fun t=>by rw [hfr t,hdst,hej];rfl) (fun i=>by rw [hHE]))
  rw [if_pos (hwant hw)]
  left
  rcases hq with ⟨hsil,p,hqu,hp⟩|⟨hsil,hl,hsO,hq⟩
  ·rw [yug (H':=hS base es H0 E ops.size) hsil] at hqu
   obtain ⟨v,hrun,hv⟩:=ygl (P:=P) hsw.objs hsw.ev hcv' hqu hp
   unfold Oper.wp
   rw [hrun]
   exact hfin w v hs hv
  ·obtain ⟨ns1,ns2⟩:=hnost hsil hl
   have hsub: ∀i ob,hget (yak (dlOf base dl j) (hS base es H0 (fun _=>true) j)) i=some ob->hget (hS base es H0 E ops.size) i=some ob:=fun i ob hi=>by
    rw [ylk] at hi
    split at hi
    ·cases hi
    ·rename_i hnd
     rw [yll hb j (fun i hi _=>ns2 i hi)] at hi
     have hil:i<base+j+1:=by
      split at hi
      ·rename_i hcnd;have:=hcnd.2.1;omega
      ·by_cases hib:base<=i
       ·rw [hb i hib] at hi;cases hi
       ·omega
     rw [yi9 hb ops.size i (ns1 i hil fun _=>by simpa using hnd)]
     split at hi
     ·rename_i hcnd
      have hin:E (i-base)=true:=by
       rcases hc.new (i-base) j (by omega) hj hcnd.2.1 with g|g
       ·exact hanc _ g
       ·exfalso;apply hnd
        rw [List.contains_iff_mem]
        exact List.mem_map.2 ⟨i-base,List.contains_iff_mem.1 g,by rw [yuh (by have:=hc.sz;omega)];omega⟩
      rw [if_pos ⟨hcnd.1,by omega,hin,hcnd.2.2.2⟩];exact hi
     ·rename_i hcnd
      by_cases hib:base<=i
      ·rw [hb i hib] at hi;cases hi
      ·rw [if_neg (fun h=>hib h.1)];exact hi
   obtain ⟨My,hMM,hsy⟩:=hs.sub hsub (fun i ob hi=>List.all_eq_true.1 hsO _ (ykc hi)) (fr':=fsc (yak (dlOf base dl j) (hS base es H0 (fun _=>true) j)) (fer (exOf ex j) (frS ops es fr0 (fun _=>true) j))) (fun t=>by
    rcases yo5 (yak (dlOf base dl j) (hS base es H0 (fun _=>true) j)) (fer (exOf ex j) (frS ops es fr0 (fun _=>true) j)) t with g|⟨g1,g2⟩
    ·exact .inl g
    ·rcases hfw t with g3|g3
     ·left;rw [g1,g3]
     ·exact .inr ⟨by rw [g1,g3],g2⟩)
   have hDD: ∀i,DD (yak (dlOf base dl j) (hS base es H0 (fun _=>true) j)) i->DD (hS base es H0 E ops.size) i:=fun i ⟨q,hq⟩=>⟨q,hsub i q hq⟩
   have hup: ∀{w':World} {v:Value},VR w' (MM My (yak (dlOf base dl j) (hS base es H0 (fun _=>true) j)) ρ) ρ (DD (yak (dlOf base dl j) (hS base es H0 (fun _=>true) j))) v r->VR w' (MM Mx (hS base es H0 E ops.size) ρ) ρ (DD (hS base es H0 E ops.size)) v r:=fun hv=>by
    rw [hMM] at hv
    exact hv.carry (Nat.le_refl _) (fun b _ hm=>⟨rfl,hm⟩) (fun k hd=>⟨hDD k hd,rfl,fun arr t ha=>⟨arr,ha,rfl⟩⟩)
   rcases hq with ⟨p,hqu,hp⟩|⟨f,args,ts,g,cap,ho,hf,hcall⟩
   ·obtain ⟨v,hrun,hv⟩:=ygl (P:=P) hsy.objs hsy.ev hcv' hqu hp
    unfold Oper.wp
    rw [hrun]
    exact hfin w v hs (hup hv)
   ·obtain ⟨vs,ef,hvl,hx⟩:=(hf▸hsy.ev f).fn_inv
    obtain ⟨hok,hcalls⟩:=yj3 (P:=P) hsy hcall (vs:=args.toList.map a.eval++vs) (by simp [hvl]) (fun i v x g1 g2=>by
     by_cases hi:i<args.toList.length
     ·rw [List.getElem?_append_left (by simpa using hi),List.getElem?_map] at g1 g2
      rw [List.getElem?_eq_getElem hi] at g1 g2
      cases g1;cases g2;exact hsy.ev _
     ·rw [List.getElem?_append_right (by simpa using hi)] at g1 g2
      simp only [List.length_map] at g1 g2
      exact hx _ v x g1 g2)
    have e1:(args.map a.eval++vs.toArray)=(args.toList.map a.eval++vs).toArray:=by obtain ⟨l⟩:=args;simp
    have hrun:(execOp a.eval o).run P w= .ok (.enter g (args.toList.map a.eval++vs).toArray) w:=by
     simp only [execOp,ho,resolve,ef]
     have h3:(#[]++Array.map a.eval args++vs.toArray)=(args.toList.map a.eval++vs).toArray:=by rw [Array.empty_append];exact e1
     simp only [Deferred.ofValue,invoke,Sem.run_bind,Sem.run_pure,Result.andThen_ok,h3]
     exact yfw hok _
    unfold Oper.wp
    rw [hrun]
    refine hcalls.mono ?_
    rintro e w' ⟨v,r',rfl,rfl,_,hv,hbl⟩
    exact hfin w' v (hs.later hbl) (hup hv)
 |alloc r ob=>
  rw [hej] at hent
  obtain ⟨hw,hsil,hl,hor⟩:=hent
  obtain ⟨ns1,ns2⟩:=hnost hsil hl
  have hfx:yhn o.op=true->(dlOf base dl j).contains (base+j)=false:=fun hf=>by
   rcases hor with ⟨p,hal,_⟩|⟨h4,_⟩
   ·exact absurd hal (yr6 hf p)
   ·simpa using h4
  have hnone:hget (hS base es H0 E ops.size) (base+j)=none:=by
   rw [yi9 hb ops.size _ (ns1 _ (by omega) hfx),if_neg (fun h=>by rw [Nat.add_sub_cancel_left,hEj] at h;cases h.2.2.1)]
   exact hb _ (by omega)
  have hfin: ∀(w':World) (v:Value) (ρ2:Nat->Addr),Sim B w0 Mx N w' ρ2 (frS ops es fr0 E ops.size) ((base+j,ob)::hS base es H0 E ops.size) a->VR w' (MM Mx ((base+j,ob)::hS base es H0 E ops.size) ρ2) ρ2 (DD ((base+j,ob)::hS base es H0 E ops.size)) v r->K (a.put o.dst v) w':=fun w' v ρ2 hs2 hv=>by
   refine hK _ _ _ ((hs2.put (d:=o.dst) (by rw [hdst];exact hdk) hv).congr (fun t=>by rw [hfr t,hdst,hej];rfl) (fun i=>?_))
   by_cases e:base+j=i
   ·subst e
    simp only [hget,if_true]
    rw [yi9 hb ops.size _ (fun i hi hEi he=>by
     by_cases e:i=j
     ·subst e;rw [hej] at he;cases he
     ·rw [h2 i e] at hEi;exact ns1 _ (by omega) hfx i hi hEi he)]
    rw [if_pos ⟨by omega,by omega,by rw [Nat.add_sub_cancel_left];exact h1,by rw [Nat.add_sub_cancel_left,hej];rfl⟩,Nat.add_sub_cancel_left,hej];rfl
   ·simp only [hget]
    rw [if_neg e]
    have gen: ∀q,q<=ops.size->hget (hS base es H0 E' q) i=hget (hS base es H0 E q) i:=by
     intro q
     induction q with
     |zero=>intro _;rfl
     |succ q ih=>
      intro hq
      have ihq:=ih (by omega)
      simp only [hS]
      by_cases eq:q=j
      ·subst eq
       rw [if_pos h1,if_neg (by rw [hEj];decide),hej]
       simp only [Ent.eff,hget]
       rw [if_neg e];exact ihq
      ·rw [h2 q eq]
       split
       ·exact yif _ _ ihq
       ·exact ihq
    exact gen ops.size (Nat.le_refl _)
  rw [if_pos (hwant hw)]
  left
  rcases hor with ⟨p,hal,hp⟩|⟨_,hsO,f,args,ts,g,cap,ho,hf,hcall⟩
  ·obtain ⟨v,w',hrun,hs',hv,blk,hblk⟩:=ynm (P:=P) hsw hnone hal hp
   unfold Oper.wp
   rw [hrun]
   exact hfin _ _ _ (hs'.reslot (fr':=frS ops es fr0 E ops.size) (fun t=>by subst hblk;exact VR.laid hs hnone (hs.frv t))) hv
  ·skip
   have hsub: ∀i ob,hget (yak (dlOf base dl j) (hS base es H0 (fun _=>true) j)) i=some ob->hget (hS base es H0 E ops.size) i=some ob:=fun i ob hi=>by
    rw [ylk] at hi
    split at hi
    ·cases hi
    ·rename_i hnd
     rw [yll hb j (fun i hi _=>ns2 i hi)] at hi
     have hil:i<base+j+1:=by
      split at hi
      ·rename_i hcnd;have:=hcnd.2.1;omega
      ·by_cases hib:base<=i
       ·rw [hb i hib] at hi;cases hi
       ·omega
     rw [yi9 hb ops.size i (ns1 i hil fun _=>by simpa using hnd)]
     split at hi
     ·rename_i hcnd
      have hin:E (i-base)=true:=by
       rcases hc.new (i-base) j (by omega) hj hcnd.2.1 with g|g
       ·exact hanc _ g
       ·exfalso;apply hnd
        rw [List.contains_iff_mem]
        exact List.mem_map.2 ⟨i-base,List.contains_iff_mem.1 g,by rw [yuh (by have:=hc.sz;omega)];omega⟩
      rw [if_pos ⟨hcnd.1,by omega,hin,hcnd.2.2.2⟩];exact hi
     ·rename_i hcnd
      by_cases hib:base<=i
      ·rw [hb i hib] at hi;cases hi
      ·rw [if_neg (fun h=>hib h.1)];exact hi
   obtain ⟨My,hMM,hsy⟩:=hs.sub hsub (fun i ob hi=>List.all_eq_true.1 hsO _ (ykc hi)) (fr':=fsc (yak (dlOf base dl j) (hS base es H0 (fun _=>true) j)) (fer (exOf ex j) (frS ops es fr0 (fun _=>true) j))) (fun t=>by
    rcases yo5 (yak (dlOf base dl j) (hS base es H0 (fun _=>true) j)) (fer (exOf ex j) (frS ops es fr0 (fun _=>true) j)) t with g|⟨g1,g2⟩
    ·exact .inl g
    ·rcases hfw t with g3|g3
     ·left;rw [g1,g3]
     ·exact .inr ⟨by rw [g1,g3],g2⟩)
   have hDD: ∀i,DD (yak (dlOf base dl j) (hS base es H0 (fun _=>true) j)) i->DD (hS base es H0 E ops.size) i:=fun i ⟨q,hq⟩=>⟨q,hsub i q hq⟩
   obtain ⟨vs,ef,hvl,hx⟩:=(hf▸hsy.ev f).fn_inv
   obtain ⟨hok,hcalls⟩:=yrl (P:=P) hsy hcall (vs:=args.toList.map a.eval++vs) (by simp [hvl]) (fun i v x g1 g2=>by
    by_cases hi:i<args.toList.length
    ·rw [List.getElem?_append_left (by simpa using hi),List.getElem?_map] at g1 g2
     rw [List.getElem?_eq_getElem hi] at g1 g2
     cases g1;cases g2;exact hsy.ev _
    ·rw [List.getElem?_append_right (by simpa using hi)] at g1 g2
     simp only [List.length_map] at g1 g2
     exact hx _ v x g1 g2)
   have e1:(args.map a.eval++vs.toArray)=(args.toList.map a.eval++vs).toArray:=by obtain ⟨l⟩:=args;simp
   have hrun:(execOp a.eval o).run P w= .ok (.enter g (args.toList.map a.eval++vs).toArray) w:=by
    simp only [execOp,ho,resolve,ef]
    have h3:(#[]++Array.map a.eval args++vs.toArray)=(args.toList.map a.eval++vs).toArray:=by rw [Array.empty_append];exact e1
    simp only [Deferred.ofValue,invoke,Sem.run_bind,Sem.run_pure,Result.andThen_ok,h3]
    exact yfw hok _
   unfold Oper.wp
   rw [hrun]
   refine hcalls.mono ?_
   rintro e w' ⟨v,es',n,t,l,ρ',M0,rfl,hIc,⟨rfl,rfl⟩,hk,hv⟩
   obtain ⟨j1,j2⟩:=hs.join1 hnone hIc rfl hk
   exact hfin _ _ _ j1 (j2 _ _ _ hv)
 |store id ob=>
  rw [hej] at hent
  obtain ⟨hw,hsil,hl,t,x,y,p,ho,hst,hp⟩:=hent
  have hni:ydp o.op=false:=by rw [ho];rfl
  have kinds: ∀i,i<ops.size->i≠j->(∀H,(es i).eff (base+i) H=H)\/(E i=true/\i<j)\/(E i=false/\j<i)\/ ∃id' ob',es i= .store id' ob'/\id'≠id:=fun i hi e=>by
   have hei:=hes i hi
   have hlo:loud (ops.getD i default).op=true->(E i=true/\i<j)\/(E i=false/\j<i)\/(((ybc ops).getD j []).contains i=false/\((ybc ops).getD i []).contains j=false/\yes ops (ops.getD i default).op o.op=true):=fun hli=>by
    cases g1:((ybc ops).getD j []).contains i with
    |true=>exact .inl ⟨hanc i g1,hc.lt i j hi hj g1⟩
    |false=>
     cases g2:((ybc ops).getD i []).contains j with
     |true=>exact .inr (.inl ⟨hdesc i g2,hc.lt j i hj hi g2⟩)
     |false=>
      rcases hc.lolo i j hi hj e hli (by rw [hog];exact hl) with g|g|g|g
      ·rw [g1] at g;cases g
      ·rw [g2] at g;cases g
      ·rw [hog,hni] at g;cases g.2
      ·rw [hog] at g;exact .inr (.inr ⟨rfl,rfl,g⟩)
   cases hk:es i with
   |skip=>left;intro H;rfl
   |quiet r=>left;intro H;rfl
   |alloc r ob'=>
    replace hei:=hei.resolve_left (by rw [hk];intro h;cases h);rw [hk] at hei
    have:=hal0 i j hi hj e (by rw [hog];exact hl) ⟨_,_,hk⟩
    exact .inr (.inl ⟨hanc i this,hc.lt i j hi hj this⟩)
   |ins id' n' x'=>
    replace hei:=hei.resolve_left (by rw [hk];intro h;cases h);rw [hk] at hei
    obtain ⟨_,_,h3,t1,m1,k1,v1,p1,ho1,_⟩:=hei
    have:=hc.ins i j hi hj e (by rw [ho1];rfl) (by rw [hog];exact hl)
    rw [hog,hni] at this;cases this
   |app r g' ob'=>
    replace hei:=hei.resolve_left (by rw [hk];intro h;cases h);rw [hk] at hei
    obtain ⟨_,_,h3,s1,x1,t1,p1,ho1,_⟩:=hei
    rcases hlo h3 with g|g|⟨_,_,g⟩
    ·exact .inr (.inl g)
    ·exact .inr (.inr (.inl g))
    ·rw [ho1] at g;cases g
   |store id' ob'=>
    replace hei:=hei.resolve_left (by rw [hk];intro h;cases h);rw [hk] at hei
    obtain ⟨_,_,h3,t1,x1,y1,p1,ho1,hst1,hp1⟩:=hei
    rcases hlo h3 with g|g|⟨u1,u2,g⟩
    ·exact .inr (.inl g)
    ·exact .inr (.inr (.inl g))
    ·refine .inr (.inr (.inr ⟨id',ob',rfl,?_⟩))
     unfold yes at g
     have gg: ∀a b,stP (ops.getD i default).op=some a->stP o.op=some b->yey ops (some a) (some b)=true:=fun a b h1 h2=>by rw [←h1,←h2];exact g
     cases ha:stP (ops.getD i default).op with
     |none=>rw [ha] at g;cases g
     |some a=>
      cases hb':stP o.op with
      |none=>rw [ha,hb'] at g;cases g
      |some b=>
       have g2:=gg a b ha hb'
       simp only [yey,Bool.and_eq_true,bne_iff_ne] at g2
       have hs2:=hsep i j a b hi hj e u1 u2 ha (by rw [hog];exact hb') g2.1.2 g2.2 g2.1.1
       obtain ⟨off1,e1⟩:=yr5 (ops:=ops) (es:=es) (fr0:=fr0) ho1 ha g2.1.2 hst1
       obtain ⟨off2,e2⟩:=yr5 (ops:=ops) (es:=es) (fr0:=fr0) ho hb' g2.2 hst
       unfold sep2 at hs2
       rw [e1,e2] at hs2
       simp only [sepV,Bool.or_eq_true,beq_iff_eq,bne_iff_ne] at hs2
       rcases hs2 with h|h
       ·exact absurd h g2.1.1
       ·exact h
  have L1: ∀k,k<=ops.size->hget (hS base es H0 E k) id=hget (hS base es H0 (fun _=>true) (min k j)) id:=by
   intro k
   induction k with
   |zero=>intro _;simp [hS]
   |succ k ih=>
    intro hk
    have ihk:=ih (by omega)
    by_cases e:k=j
    ·subst e
     simp only [hS,hEj,if_false,Bool.false_eq_true]
     rw [ihk,Nat.min_self,show min (k+1) k=k by omega]
    ·by_cases hkj:k<j
     ·rw [show min (k+1) j=k+1 by omega]
      rw [show min k j=k by omega] at ihk
      simp only [hS,if_true]
      rcases kinds k (by omega) e with g1|⟨g1,_⟩|⟨_,g2⟩|⟨id',ob',g1,g2⟩
      ·rw [g1,g1];split<;>exact ihk
      ·rw [if_pos g1];exact yif _ _ ihk
      ·omega
      ·rw [g1];simp only [Ent.eff]
       rw [yaf g2]
       split
       ·rw [yaf g2];exact ihk
       ·exact ihk
     ·rw [show min (k+1) j=j by omega]
      rw [show min k j=j by omega] at ihk
      simp only [hS]
      split
      ·rename_i hEk
       rcases kinds k (by omega) e with g1|⟨_,g2⟩|⟨g1,_⟩|⟨id',ob',g1,g2⟩
       ·rw [g1];exact ihk
       ·omega
       ·rw [g1] at hEk;cases hEk
       ·rw [g1];simp only [Ent.eff];rw [yaf g2];exact ihk
      ·exact ihk
  have hid:=L1 ops.size (Nat.le_refl _)
  rw [show min ops.size j=j by omega] at hid
  rw [←ywi hst hid] at hst
  have L2: ∀k,j<k->k<=ops.size-> ∀i,hget (hS base es H0 E' k) i=hget (hset (hS base es H0 E k) id ob) i:=by
   intro k
   induction k with
   |zero=>intro h;omega
   |succ k ih=>
    intro hjk hk i
    by_cases e:k=j
    ·subst e
     have hbelow:hS base es H0 E' k=hS base es H0 E k:=by
      have gen: ∀q,q<=k->hS base es H0 E' q=hS base es H0 E q:=by
       intro q
       induction q with
       |zero=>intro _;rfl
       |succ q ihq=>intro hq;simp only [hS];rw [ihq (by omega),h2 q (by omega)]
      exact gen k (Nat.le_refl _)
     simp only [hS,h1,if_true,hEj,Bool.false_eq_true,if_false,hej,Ent.eff]
     rw [hbelow]
    ·have ihk:=ih (by omega) (by omega)
     simp only [hS,h2 k e]
     split
     ·rename_i hEk
      rcases kinds k (by omega) e with g1|⟨_,g2⟩|⟨g1,_⟩|⟨id',ob',g1,g2⟩
      ·rw [g1,g1];exact ihk i
      ·omega
      ·rw [g1] at hEk;cases hEk
      ·rw [g1]
       simp only [Ent.eff]
       rw [ycq,ycq,ycq,ihk i,ycq]
       by_cases e1:id'=i
       ·rw [if_pos e1,if_neg (fun h=>g2 (e1.trans h.symm)),if_neg (fun h=>g2 (e1.trans h.symm)),if_pos e1]
       ·rw [if_neg e1,if_neg e1]
     ·exact ihk i
  obtain ⟨w',hrun,hs'⟩:=ynj (P:=P) hs (hsw.ev x) (hsw.ev y) hst hp
  rw [if_pos (hwant hw)]
  left
  have hrun':(execOp a.eval o).run P w= .ok .skip w':=by simp only [execOp,ho];simp [hrun]
  unfold Oper.wp
  rw [hrun']
  refine hK _ _ _ ((hs'.put (d:=o.dst) (by rw [hdst];exact hdk) (.any _)).congr (fun t=>by rw [hfr t,hdst,hej];rfl) (fun i=>?_))
  rw [L2 ops.size hj (Nat.le_refl _) i]
 |app r g ob=>
  rw [hej] at hent
  obtain ⟨hw,hsil,hl,sx,x,t,p,ho,hst,hp⟩:=hent
  obtain ⟨hHj,hHj'⟩:=hloud hl (by rw [ho];rfl) (by rw [ho];rfl)
  rw [←hHj] at hst
  have hnone:hget (hS base es H0 E ops.size) (base+j)=none:=by
   rw [hHj]
   have gen: ∀k,k<=j-> ∀i,base+k<=i->hget (hS base es H0 (fun _=>true) k) i=none:=by
    intro k
    induction k with
    |zero=>intro _ i hi;exact hb i (by omega)
    |succ k ih=>
     intro hk i hi
     have ihk:=ih (by omega) i (by omega)
     simp only [hS,if_true]
     cases hek:es k with
     |skip=>exact ihk
     |quiet r=>exact ihk
     |alloc r ob=>simp only [Ent.eff,hget];rw [if_neg (by omega)];exact ihk
     |store id ob=>
      simp only [Ent.eff]
      by_cases e:id=i
      ·subst e
       have hnn: ∀(H:Hp),hget H id=none->hget (hset H id ob) id=none:=fun H hH=>by
        induction H with
        |nil=>rfl
        |cons q r ihr=>
         obtain ⟨m,oo⟩:=q
         simp only [hget] at hH
         split at hH
         ·cases hH
         ·rename_i hm;simp only [hset,hm,if_false,hget];exact ihr hH
       exact hnn _ ihk
      ·rw [yaf e];exact ihk
     |ins id n x=>
      have:=hc.ins k j (by omega) hj (by omega) (by
       have hek':=(hes k (by omega)).resolve_left (by rw [hek];intro h;cases h)
       rw [hek] at hek'
       obtain ⟨_,_,_,t',m',k',v',p',ho',_⟩:=hek'
       rw [ho'];rfl) (by rw [hog];exact hl)
      rw [hog,ho] at this;cases this
     |app r g ob=>
      simp only [Ent.eff,hget];rw [if_neg (by omega)]
      cases g with
      |none=>exact ihk
      |some id=>
       simp only [hgo]
       by_cases e:id=i
       ·subst e
        have hnn: ∀(H:Hp),hget H id=none->hget (hset H id .gone) id=none:=fun H hH=>by
         induction H with
         |nil=>rfl
         |cons q r ihr=>
          obtain ⟨m,oo⟩:=q
          simp only [hget] at hH
          split at hH
          ·cases hH
          ·rename_i hm;simp only [hset,hm,if_false,hget];exact ihr hH
        exact hnn _ ihk
       ·rw [yaf e];exact ihk
   exact gen j (Nat.le_refl _) _ (Nat.le_refl _)
  obtain ⟨z,w',ρ',hrun,hs',hv⟩:=ywe (P:=P) (ty:=o.type) hs hnone (hsw.ev sx) (hsw.ev x) hst hp
  rw [if_pos (hwant hw)]
  left
  have hrun':(execOp a.eval o).run P w= .ok (.value z) w':=by simp [execOp,ho,resolve,invoke,builtin,hrun]
  unfold Oper.wp
  rw [hrun']
  refine hK _ _ _ ((hs'.put (d:=o.dst) (by rw [hdst];exact hdk) hv).congr (fun t=>by rw [hfr t,hdst,hej];rfl) (fun i=>?_))
  rw [hHj',hej,hHj];rfl
 |ins id n x=>
  rw [hej] at hent
  obtain ⟨hw,hsil,hl,t,mo,ko,vo,p,ho,hst,hp⟩:=hent
  obtain ⟨kt,et,htk,hkt,em,ek,ev,t',g,hg,hgn⟩:=yr4 hst hp
  have hij:ydp (ops.getD j default).op=true:=by rw [hog,ho];rfl
  have kinds: ∀i,i<ops.size->i≠j->(∀H,(es i).eff (base+i) H=H)\/(i<j/\E i=true/\ ∃r ob,es i= .alloc r ob)\/ ∃id' n' x',es i= .ins id' n' x':=fun i hi e=>by
   have hei:=hes i hi
   cases hk:es i with
   |skip=>left;intro H;rfl
   |quiet r=>left;intro H;rfl
   |alloc r ob'=>
    replace hei:=hei.resolve_left (by rw [hk];intro h;cases h);rw [hk] at hei
    have:=hal0 i j hi hj e (by rw [hog];exact hl) ⟨_,_,hk⟩
    exact .inr (.inl ⟨hc.lt i j hi hj this,hanc i this,r,ob',rfl⟩)
   |store id' ob'=>
    replace hei:=hei.resolve_left (by rw [hk];intro h;cases h);rw [hk] at hei
    obtain ⟨_,_,h3,t1,x1,y1,p1,ho1,_⟩:=hei
    have:=hc.ins j i hj hi (Ne.symm e) hij h3
    rw [ho1] at this;cases this
   |app r g' ob'=>
    replace hei:=hei.resolve_left (by rw [hk];intro h;cases h);rw [hk] at hei
    obtain ⟨_,_,h3,t1,x1,y1,p1,ho1,_⟩:=hei
    have:=hc.ins j i hj hi (Ne.symm e) hij h3
    rw [ho1] at this;cases this
   |ins id' n' x'=>exact .inr (.inr ⟨id',n',x',rfl⟩)
  have L1: ∀k,k<=ops.size->kdI (hS base es H0 E k) id=kdI (hS base es H0 (fun _=>true) (min k j)) id:=by
   intro k
   induction k with
   |zero=>intro _;simp [hS]
   |succ k ih=>
    intro hk
    have ihk:=ih (by omega)
    by_cases e:k=j
    ·subst e
     simp only [hS,hEj,if_false,Bool.false_eq_true]
     rw [ihk,Nat.min_self,show min (k+1) k=k by omega]
    ·by_cases hkj:k<j
     ·rw [show min (k+1) j=k+1 by omega]
      rw [show min k j=k by omega] at ihk
      simp only [hS,if_true]
      rcases kinds k (by omega) e with g1|⟨_,g2,r,ob,g3⟩|⟨id',n',x',g1⟩
      ·rw [g1,g1];split<;>exact ihk
      ·rw [if_pos g2,g3]
       simp only [Ent.eff,kdI,hget]
       split
       ·rfl
       ·exact ihk
      ·rw [g1]
       simp only [Ent.eff,ymq]
       split
       ·rw [ymq];exact ihk
       ·exact ihk
     ·rw [show min (k+1) j=j by omega]
      rw [show min k j=j by omega] at ihk
      simp only [hS]
      split
      ·rcases kinds k (by omega) e with g1|⟨g2,_⟩|⟨id',n',x',g1⟩
       ·rw [g1];exact ihk
       ·omega
       ·rw [g1];simp only [Ent.eff,ymq];exact ihk
      ·exact ihk
  have hkd:=L1 ops.size (Nat.le_refl _)
  rw [show min ops.size j=j by omega] at hkd
  have hkj:kdI (hS base es H0 (fun _=>true) j) id=some t':=by unfold kdI;rw [hg];rfl
  obtain ⟨gE,hgE⟩: ∃gE,hget (hS base es H0 E ops.size) id=some (.fmap t' (.ints gE)):=yz9 (hkd.trans hkj)
  have L3: ∀k,j<k->k<=ops.size->(bdI (hS base es H0 (fun _=>true) k) id n).isSome=true:=by
   intro k
   induction k with
   |zero=>intro h;omega
   |succ k ih=>
    intro hjk hk
    by_cases e:k=j
    ·subst e
     simp only [hS,if_true,hej,Ent.eff]
     rw [y0a hg];rfl
    ·have ihk:=ih (by omega) (by omega)
     simp only [hS,if_true]
     rcases kinds k (by omega) e with g1|⟨g2,_⟩|⟨id',n',x',g1⟩
     ·rw [g1];exact ihk
     ·omega
     ·rw [g1];simp only [Ent.eff];exact y27 ihk
  have hdist: ∀k,j<k->k<ops.size-> ∀id' n' x',es k= .ins id' n' x'->id'≠id\/n'≠n:=by
   intro k hjk hk id' n' x' hek
   have hk2:=(hes k hk).resolve_left (by rw [hek];intro h;cases h)
   rw [hek] at hk2
   obtain ⟨_,_,_,t1,m1,k1,v1,p1,ho1,hst1,hp1⟩:=hk2
   obtain ⟨_,_,_,_,_,_,_,t2,g2,hg2,hgn2⟩:=yr4 hst1 hp1
   by_cases e1:id'=id
   ·by_cases e2:n'=n
    ·exfalso
     subst e1 e2
     have:=L3 k hjk (by omega)
     unfold bdI at this
     rw [hg2] at this
     simp only [bdO,hgn2] at this
     cases this
    ·exact .inr e2
   ·exact .inl e1
  have L2: ∀k,j<k->k<=ops.size-> ∀i,hget (hS base es H0 E' k) i=hget (insE (hS base es H0 E k) id n x) i:=by
   intro k
   induction k with
   |zero=>intro h;omega
   |succ k ih=>
    intro hjk hk i
    by_cases e:k=j
    ·subst e
     have hbelow:hS base es H0 E' k=hS base es H0 E k:=by
      have gen: ∀q,q<=k->hS base es H0 E' q=hS base es H0 E q:=by
       intro q
       induction q with
       |zero=>intro _;rfl
       |succ q ihq=>intro hq;simp only [hS];rw [ihq (by omega),h2 q (by omega)]
      exact gen k (Nat.le_refl _)
     simp only [hS,h1,if_true,hEj,Bool.false_eq_true,if_false,hej,Ent.eff]
     rw [hbelow]
    ·have ihk:=ih (by omega) (by omega)
     simp only [hS,h2 k e]
     split
     ·rcases kinds k (by omega) e with g1|⟨g2,_⟩|⟨id',n',x',g1⟩
      ·rw [g1,g1];exact ihk i
      ·omega
      ·rw [g1]
       simp only [Ent.eff]
       exact ywh ihk (hdist k (by omega) (by omega) id' n' x' g1) i
     ·exact ihk i
  have hmu:muF P (hS base es H0 E ops.size) t (.mp id) (.int .i64 n) (.int .i64 x)=some (id, .fmap t' (.ints (updI gE n x))):=by
   unfold muF;rw [htk];simp only [hkt,muK,hgE,muM]
  have hm1:=hsw.ev mo
  have hk1:=hsw.ev ko
  have hv1:=hsw.ev vo
  rw [em] at hm1
  rw [ek] at hk1
  rw [ev] at hv1
  obtain ⟨w',hrun,hs'⟩:=ynk (P:=P) hs hm1 hk1 hv1 hmu
  rw [if_pos (hwant hw)]
  left
  have hrun':(execOp a.eval o).run P w= .ok .skip w':=by simp only [execOp,ho];simp [hrun]
  unfold Oper.wp
  rw [hrun']
  refine hK _ _ _ ((hs'.put (d:=o.dst) (by rw [hdst];exact hdk) (.any _)).congr (fun t=>by rw [hfr t,hdst,hej];rfl) (fun i=>?_))
  rw [L2 ops.size hj (Nat.le_refl _) i]
  unfold insE
  rw [hgE];rfl
theorem yns {al ids:List Nat} {q:Nat} (hq:q<=ops.size) {H:Hp} {fr:Fr} (hres: ∀a,al.contains a=true-> ∃id off,fget fr a= .ptr id off/\ids.contains id=true) (hc:Chk al ids ops ex dl) (hsep: ∀i j a b,i<ops.size->j<ops.size->i≠j->((ybc ops).getD j []).contains i=false->((ybc ops).getD i []).contains j=false->stP (ops.getD i default).op=some a->stP (ops.getD j default).op=some b->unw ops a=true->unw ops b=true->a≠b->sep2 fr a b=true)
  (hes: ∀j,j<ops.size->es j= .skip\/ydq P ops (hnew H) ex dl j (ops.getD j default) (frS ops es fr (fun _=>true) j) (hS (hnew H) es H (fun _=>true) j) (es j))
  (hent: ∀j,j<q->dok (yal ops j) N=true/\ydq P ops (hnew H) ex dl j (ops.getD j default) (frS ops es fr (fun _=>true) j) (hS (hnew H) es H (fun _=>true) j) (es j))
  (hlast: ∀j,q<=j->j<ops.size-> ∀i,i<q->((ybc ops).getD j []).contains i=true) (Q:Exit->Act->World->Prop)
  (post: ∀(listed:Array Bool) (a:Act) (w:World) (ρ:Nat->Addr),listed.size=ops.size->(∀i,i<ops.size->listed.getD i false=decide (i<q))->Sim B w0 Mx N w ρ (frS ops es fr (fun _=>true) q) (hS (hnew H) es H (fun _=>true) q) a->wpAny P .any ops Q (ops.size-q) listed a w):
  ∀(f:Nat) (listed:Array Bool) (a:Act) (w:World),listed.size=ops.size->cntE (fun i=>listed.getD i false) ops.size+f=q->(∀i,q<=i->listed.getD i false=false)->yg2 ops (fun i=>listed.getD i false)->
   (∃ρ,Sim B w0 Mx N w ρ (frS ops es fr (fun i=>listed.getD i false) ops.size) (hS (hnew H) es H (fun i=>listed.getD i false) ops.size) a)->
   wpAny P .any ops Q (ops.size-q+f) listed a w:=by
 have cntq: ∀(E:Nat->Bool),(∀i,q<=i->E i=false)->cntE E ops.size=cntE E q:=by
  intro E hE
  have gen: ∀d,q+d<=ops.size->cntE E (q+d)=cntE E q:=by
   intro d
   induction d with
   |zero=>intro _;rfl
   |succ d ih=>intro hd;rw [←Nat.add_assoc];simp only [cntE,hE (q+d) (by omega),Bool.false_eq_true,if_false];exact ih (by omega)
  have:=gen (ops.size-q) (by omega)
  rwa [show q+(ops.size-q)=ops.size by omega] at this
 intro f
 induction f with
 |zero=>
  intro listed a w hsz hcnt hno hcl ⟨ρ,hs⟩
  rw [cntq _ hno] at hcnt
  have hall:=yki q (by omega:cntE (fun i=>listed.getD i false) q=q)
  have hli: ∀i,i<ops.size->listed.getD i false=decide (i<q):=fun i hi=>by
   by_cases e:i<q
   ·rw [hall i e];simp [e]
   ·rw [hno i (by omega)];simp [e]
  have e1: ∀t,fget (frS ops es fr (fun _=>true) q) t=fget (frS ops es fr (fun i=>listed.getD i false) ops.size) t:=fun t=>by
   rw [←ywf (ops:=ops) (es:=es) (fr0:=fr) (j:=q) (E:=fun i=>decide (i<q)) (fun _=>rfl) ops.size hq]
   exact ygn ops.size fun i hi _=>(hli i hi).symm
  have e2:hS (hnew H) es H (fun _=>true) q=hS (hnew H) es H (fun i=>listed.getD i false) ops.size:=by
   rw [←yuj (base:=hnew H) (es:=es) (H0:=H) (j:=q) (E:=fun i=>decide (i<q)) (fun _=>rfl) ops.size hq]
   exact yeh ops.size fun i hi=> .inr (hli i hi).symm
  exact post listed a w ρ hsz hli (hs.congr e1 (fun i=>by rw [e2]))
 |succ f ih=>
  intro listed a w hsz hcnt hno hcl ⟨ρ,hs⟩
  have hun: ∃j,j<q/\listed.getD j false=false:=by
   refine Classical.byContradiction fun hn=>?_
   have hall: ∀i,i<q->listed.getD i false=true:=fun i hi=>by
    cases hh:listed.getD i false with
    |true=>rfl
    |false=>exact absurd ⟨i,hi,hh⟩ hn
   have hcall: ∀k,k<=q->cntE (fun i=>listed.getD i false) k=k:=by
    intro k
    induction k with
    |zero=>intro _;rfl
    |succ k ihk=>intro hk;simp only [cntE,ihk (by omega),hall k (by omega),if_true]
   rw [cntq _ hno,hcall q (Nat.le_refl _)] at hcnt;omega
  refine ⟨fun hnil=>?_,fun j hj=>?_⟩
  ·exfalso
   obtain ⟨j0,hj0,hf0⟩:=hun
   have gen: ∀m,∀j,j<=m->j<q->listed.getD j false=false-> ∃j,j<q/\listed.getD j false=false/\ ∀i,i<j->listed.getD i false=true:=by
    intro m
    induction m with
    |zero=>intro j hjm hj hf;exact ⟨j,hj,hf,fun i hi=>by omega⟩
    |succ m ihm=>
     intro j hjm hj hf
     by_cases hsm: ∃i,i<j/\listed.getD i false=false
     ·obtain ⟨i,hij,hfi⟩:=hsm;exact ihm i (by omega) (by omega) hfi
     ·refine ⟨j,hj,hf,fun i hi=>?_⟩
      cases hh:listed.getD i false with
      |true=>rfl
      |false=>exact absurd ⟨i,hi,hh⟩ hsm
   obtain ⟨j,hj,hf,hsm⟩:=gen j0 j0 (Nat.le_refl _) hj0 hf0
   have hj:j<ops.size:=by omega
   have:j∈Region.ready .any ops listed:=mem_ready.2 ⟨by
    have hjl:j<listed.size:=by omega
    simpa [hjl] using hf,ops[j],by simp [hj],fun e he hbd=>hsm _ (hc.elt j hj e.on (by
     simp only [ybb,List.mem_map,List.mem_filter]
     exact ⟨e,⟨by simpa [hj] using he,hbd⟩,rfl⟩))⟩
   rw [hnil] at this;cases this
  ·obtain ⟨g1,o,g2,g3⟩:=mem_ready.1 hj
   have hj':j<ops.size:=(Array.getElem?_eq_some_iff.1 g2).1
   have hjl:j<listed.size:=by omega
   have hEj:listed.getD j false=false:=by simpa [hjl] using g1
   have ho:ops.getD j default=o:=by simp [g2]
   have hedge: ∀e∈ybb (ops.getD j default),listed.getD e false=true:=fun e he=>by
    rw [ho] at he
    simp only [ybb,List.mem_map,List.mem_filter] at he
    obtain ⟨x,⟨hx1,hx2⟩,rfl⟩:=he
    exact g3 x (by simpa using hx1) hx2
   have hjq:j<q:=by
    rcases Nat.lt_or_ge j q with g|g
    ·exact g
    ·obtain ⟨i,hi,hfi⟩:=hun
     have:=yo7 (E:=fun i=>listed.getD i false) hcl (hlast j g hj' i hi) hedge
     rw [hfi] at this;cases this
   have hset1:(listed.setIfInBounds j true).getD j false=true:=by simp [hjl]
   have hset2: ∀i,i≠j->(listed.setIfInBounds j true).getD i false=listed.getD i false:=fun i hi=>getD_set_ne false (Ne.symm hi)
   refine ywj (P:=P) (N:=N) (ex:=ex) (dl:=dl) hres hc hsep (fun i hi=>yec hi) hes hcl (fun i hi=>?_) hj' (hent j hjq).1 (hent j hjq).2 hEj hedge hs (E':=fun i=>(listed.setIfInBounds j true).getD i false) hset1 hset2 _ _ (fun a' w' ρ' hs'=>ih _ a' w' (by simpa using hsz) ?_ ?_ ?_ ⟨ρ',hs'⟩)
   ·have hil:i<listed.size:=by
     rcases Nat.lt_or_ge i listed.size with g|g
     ·exact g
     ·simp [Nat.not_lt.2 g] at hi
    omega
   ·have:=ykj (E:=fun i=>listed.getD i false) (E':=fun i=>(listed.setIfInBounds j true).getD i false) hEj hset1 hset2 ops.size
    rw [if_pos hj'] at this;omega
   ·intro i hi
    rw [hset2 i (by omega)];exact hno i hi
   ·intro k hk i hi
    show (listed.setIfInBounds j true).getD i false=true
    have hk:(listed.setIfInBounds j true).getD k false=true:=hk
    by_cases e:i=j
    ·subst e;exact hset1
    ·rw [hset2 i e]
     by_cases ek:k=j
     ·subst ek;exact hedge i hi
     ·rw [hset2 k ek] at hk;exact hcl k hk i hi
theorem yln {q:Nat} {H:Hp} {fr:Fr} {a:Act} {w:World} {ρ:Nat->Addr} {Q:Exit->Act->World->Prop} (hq:q<=ops.size) (hs:Sim B w0 Mx N w ρ fr H a)
  (hmain: ∀(f:Nat) (listed:Array Bool) (a:Act) (w:World),listed.size=ops.size->cntE (fun i=>listed.getD i false) ops.size+f=q->(∀i,q<=i->listed.getD i false=false)->yg2 ops (fun i=>listed.getD i false)->
   (∃ρ,Sim B w0 Mx N w ρ (frS ops es fr (fun i=>listed.getD i false) ops.size) (hS (hnew H) es H (fun i=>listed.getD i false) ops.size) a)->
   wpAny P .any ops Q (ops.size-q+f) listed a w):wpAny P .any ops Q ops.size (Array.replicate ops.size false) a {w with drawn:=w.drawn+1}:=by
 have h0:=hmain q (Array.replicate ops.size false) a {w with drawn:=w.drawn+1} (by simp) ?_ (fun i _=>ycp _ _) (fun j hj=>?_) ⟨ρ,(hs.draw).congr (fun t=>?_) (fun i=>?_)⟩
 ·rwa [show ops.size-q+q=ops.size by omega] at h0
 ·have: ∀k,cntE (fun i=>(Array.replicate ops.size false).getD i false) k=0:=by
   intro k
   induction k with
   |zero=>rfl
   |succ k ihk=>simp only [ycp] at ihk;simp only [cntE,ycp,ihk];rfl
  rw [this];omega
 ·exfalso
  have hj:(Array.replicate ops.size false).getD j false=true:=hj
  rw [ycp] at hj;cases hj
 ·have: ∀k,frS ops es fr (fun i=>(Array.replicate ops.size false).getD i false) k=fr:=by
   intro k
   induction k with
   |zero=>rfl
   |succ k ihk=>simp only [ycp] at ihk;simp only [frS,ycp,ihk];rfl
  rw [this]
 ·have: ∀k,hS (hnew H) es H (fun i=>(Array.replicate ops.size false).getD i false) k=H:=by
   intro k
   induction k with
   |zero=>rfl
   |succ k ihk=>simp only [ycp] at ihk;simp only [hS,ycp,ihk];rfl
  rw [this]
theorem yig {listed:Array Bool} (hsz:listed.size=ops.size) (hall: ∀i,i<ops.size->listed.getD i false=true):Region.ready .any ops listed=[]:=by
 rw [List.eq_nil_iff_forall_not_mem]
 intro j hj
 obtain ⟨g1,o,g2,_⟩:=mem_ready.1 hj
 have hj':j<ops.size:=(Array.getElem?_eq_some_iff.1 g2).1
 have:=hall j hj'
 have hjl:j<listed.size:=by omega
 simp [hjl] at this g1
 rw [this] at g1;cases g1
theorem ya2.introQ (al ids:List Nat) {id:Nat} {fr:Fr} {H:Hp} {Q:Exit->Fr->Hp->Prop} (ex dl:List (List Nat)) (hchk:(chkR al ids ops ex dl&&(ex.length==ops.size)&&(dl.length==ops.size))=true) (hm:P.follows .mixedOrders=true)
  (hres: ∀a,al.contains a=true-> ∃id off,fget fr a= .ptr id off/\ids.contains id=true) (hsep: ∀i j a b,i<ops.size->j<ops.size->i≠j->((ybc ops).getD j []).contains i=false->((ybc ops).getD i []).contains j=false->stP (ops.getD i default).op=some a->stP (ops.getD j default).op=some b->unw ops a=true->unw ops b=true->a≠b->sep2 fr a b=true)
  (h:awD P N ops (hnew H) 0 ops.toList ex dl fr H (Q .normal)):ya2 P N id ops fr H Q:=by
 simp only [Bool.and_eq_true,beq_iff_eq] at hchk
 obtain ⟨⟨hck,hl1⟩,hl2⟩:=hchk
 have hc:=ywg hck
 obtain ⟨es,h1,h2⟩:=ykh (P:=P) (N:=N) (ops:=ops) (base:=hnew H) (ex:=ex) (dl:=dl) ops.size 0 fr H (by omega) hl1 hl2 (by
  rw [List.take_of_length_le (by simp)];simpa using h)
 have hes: ∀j,j<ops.size->dok (yal ops j) N=true/\ydq P ops (hnew H) ex dl j (ops.getD j default) (frS ops es fr (fun _=>true) j) (hS (hnew H) es H (fun _=>true) j) (es j):=fun j hj=>by
  obtain ⟨g1,fr',H',g2,g3,g4⟩:=h1 j hj
  rw [Nat.zero_add] at g1 g4
  rw [yg1] at g2
  rw [ylm] at g3
  subst g2 g3
  exact ⟨g1,g4⟩
 rw [yg1,ylm] at h2
 refine ⟨fun B w0 Mx w ρ a hs=>wp_region_any hm (yln (q:=ops.size) (Nat.le_refl _) hs (yns (Nat.le_refl _) hres hc hsep (fun j hj=> .inr (hes j hj).2) hes (fun j h1 h2=>by omega) _ (fun listed a w ρ hsz hli hs=>?_)))⟩
 rw [Nat.sub_self]
 exact ⟨yig hsz (fun i hi=>by rw [hli i hi];simp [hi]),ρ,_,_,h2,hs⟩
theorem ya2.introG {id:Nat} {fr:Fr} {H:Hp} {Q:Exit->Fr->Hp->Prop} (ex dl:List (List Nat)) (hchk:(chk ops ex dl&&(ex.length==ops.size)&&(dl.length==ops.size))=true) (hm:P.follows .mixedOrders=true)
  (hsep: ∀i j a b,i<ops.size->j<ops.size->i≠j->((ybc ops).getD j []).contains i=false->((ybc ops).getD i []).contains j=false->stP (ops.getD i default).op=some a->stP (ops.getD j default).op=some b->unw ops a=true->unw ops b=true->a≠b->sep2 fr a b=true)
  (h:awD P N ops (hnew H) 0 ops.toList ex dl fr H (Q .normal)):ya2 P N id ops fr H Q:=
 ya2.introQ [] [] ex dl hchk hm (fun a h=>by simp at h) hsep h
def yop (P:Program) (N:Nat) (ops:Array Oper) (K:Fr->Hp->Prop) (fr:Fr) (H:Hp):Prop:=awL P N ops (ops.toList.drop (ops.size-1)) fr H K
theorem ya2.introL {id:Nat} {fr:Fr} {H:Hp} {Q:Exit->Fr->Hp->Prop} (ex dl:List (List Nat)) (hchk:(chk ops ex dl&&(ex.length==ops.size)&&(dl.length==ops.size)&&yoo ops&&ymo ops)=true) (hm:P.follows .mixedOrders=true)
  (h:awD P N ops (hnew H) 0 (ops.toList.take (ops.size-1)) ex dl fr H (yop P N ops (Q .normal))):ya2 P N id ops fr H Q:=by
 simp only [Bool.and_eq_true,beq_iff_eq] at hchk
 obtain ⟨⟨⟨⟨hck,hl1⟩,hl2⟩,hns⟩,hla⟩:=hchk
 have hc:=ywg hck
 unfold ymo at hla
 simp only [Bool.and_eq_true,decide_eq_true_eq,Option.isNone_iff_eq_none,List.all_eq_true,List.mem_range] at hla
 obtain ⟨⟨hpos,hgn⟩,hanc⟩:=hla
 obtain ⟨es',h1',h2'⟩:=ykh (P:=P) (N:=N) (ops:=ops) (base:=hnew H) (ex:=ex) (dl:=dl) (ops.size-1) 0 fr H (by omega) hl1 hl2 (by simpa only [List.drop_zero] using h)
 obtain ⟨es,hesl,hesd⟩: ∃es:Nat->Ent,es (ops.size-1)= .skip/\ ∀i,i<ops.size-1->es i=es' i:=⟨fun i=>if i<ops.size-1 then es' i else .skip,by simp,fun i hi=>by simp [hi]⟩
 have hsame: ∀k,k<=ops.size-1->frS ops es fr (fun _=>true) k=frS ops es' fr (fun _=>true) k/\hS (hnew H) es H (fun _=>true) k=hS (hnew H) es' H (fun _=>true) k:=by
  intro k
  induction k with
  |zero=>intro _;exact ⟨rfl,rfl⟩
  |succ k ih=>
   intro hk
   obtain ⟨i1,i2⟩:=ih (by omega)
   simp only [frS,hS,if_true,i1,i2,hesd k (by omega),and_self]
 have hes: ∀j,j<ops.size-1->dok (yal ops j) N=true/\ydq P ops (hnew H) ex dl j (ops.getD j default) (frS ops es fr (fun _=>true) j) (hS (hnew H) es H (fun _=>true) j) (es j):=fun j hj=>by
  obtain ⟨g1,fr',H',g2,g3,g4⟩:=h1' j hj
  rw [Nat.zero_add] at g1 g4
  rw [yg1] at g2
  rw [ylm] at g3
  subst g2 g3
  rw [(hsame j (by omega)).1,(hsame j (by omega)).2,hesd j hj]
  exact ⟨g1,g4⟩
 rw [yg1,ylm,←(hsame (ops.size-1) (Nat.le_refl _)).1,←(hsame (ops.size-1) (Nat.le_refl _)).2] at h2'
 refine ⟨fun B w0 Mx w ρ a hs=>wp_region_any hm (yln (q:=ops.size-1) (by omega) hs (yns (by omega) (al:=[]) (ids:=[]) (fun a h=>by simp at h) hc (fun i j a b hi hj hne h1 h2 ha hb ua ub hab=>?_) (fun j hj=>?_) hes (fun j h1 h2 i hi=>?_) _ (fun listed a w ρ hsz hli hs=>?_)))⟩
 ·exfalso
  have h0:=List.all_eq_true.1 (List.all_eq_true.1 hns j (by simpa using hj)) i (by simpa using hi)
  simp only [Bool.or_eq_true,beq_iff_eq,Bool.not_eq_true'] at h0
  rcases h0 with ((h0|h0)|h0)|h0
  ·exact hne h0
  ·unfold yes at h0
   rw [ha,hb] at h0
   simp only [yey,ua,ub,Bool.and_true,bne_eq_false_iff_eq] at h0
   exact hab h0
  ·rw [h1] at h0;cases h0
  ·rw [h2] at h0;cases h0
 ·rcases Nat.lt_or_ge j (ops.size-1) with g|g
  ·exact .inr (hes j g).2
  ·rw [show j=ops.size-1 by omega];exact .inl hesl
 ·rw [show j=ops.size-1 by omega];exact hanc i hi
 ·rw [show ops.size-(ops.size-1)=0+1 by omega]
  refine ⟨fun hnil=>?_,fun j hj=>?_⟩
  ·exfalso
   have:ops.size-1∈Region.ready .any ops listed:=mem_ready.2 ⟨by
    have hjl:ops.size-1<listed.size:=by omega
    have:=hli (ops.size-1) (by omega)
    simpa [hjl] using this,ops[ops.size-1],by simp,fun e he hbd=>by
     have hlt:=hc.elt (ops.size-1) (by omega) e.on (by
      simp only [ybb,List.mem_map,List.mem_filter]
      refine ⟨e,⟨?_,hbd⟩,rfl⟩
      have hgd:ops.getD (ops.size-1) default=ops[ops.size-1]:=by simp [show ops.size-1<ops.size by omega]
      rw [hgd];simpa using he)
     rw [hli e.on (by omega)];simp [hlt]⟩
   rw [hnil] at this;cases this
  ·obtain ⟨g1,o,g2,g3⟩:=mem_ready.1 hj
   have hj':j<ops.size:=(Array.getElem?_eq_some_iff.1 g2).1
   have hjl:j<listed.size:=by omega
   have hEj:listed.getD j false=false:=by simpa [hjl] using g1
   have hjq:j=ops.size-1:=by
    rw [hli j hj'] at hEj
    have: ¬j<ops.size-1:=by simpa using hEj
    omega
   subst hjq
   have ho:ops.getD (ops.size-1) default=o:=by simp [g2]
   unfold wpOp
   rw [g2]
   simp only
   rw [ho] at hgn
   unfold yop at h2'
   have hdl:ops.toList.drop (ops.size-1)=[o]:=by
    rw [List.drop_eq_getElem_cons (by simp;omega),List.drop_of_length_le (by simp;omega)]
    have:=(Array.getElem?_eq_some_iff.1 g2).2
    simpa using this
   rw [hdl] at h2'
   simp only [awL,hgn] at h2'
   rw [if_pos (by simp [Region.wanted,hgn])]
   left
   refine Oper.wp_mono ?_ (yex hs h2' _)
   rintro a' w' ⟨ρ',fr',H',hq,hs'⟩
   exact ⟨yig (by simpa using hsz) (fun i hi=>by
    by_cases e:i=ops.size-1
    ·subst e;simp [hjl]
    ·rw [getD_set_ne false (Ne.symm e),hli i hi];simp;omega),ρ',fr',H',hq,hs'⟩
theorem ya2.intro {id:Nat} {fr:Fr} {H:Hp} {Q:Exit->Fr->Hp->Prop} (ex dl:List (List Nat)) (hchk:(chk ops ex dl&&(ex.length==ops.size)&&(dl.length==ops.size)&&yoo ops)=true) (hm:P.follows .mixedOrders=true)
  (h:awD P N ops (hnew H) 0 ops.toList ex dl fr H (Q .normal)):ya2 P N id ops fr H Q:=by
 rw [Bool.and_eq_true] at hchk
 refine ya2.introG ex dl hchk.1 hm (fun i j a b hi hj hne h1 h2 ha hb ua ub hab=>?_) h
 exfalso
 have h0:=List.all_eq_true.1 (List.all_eq_true.1 hchk.2 j (by simpa using hj)) i (by simpa using hi)
 simp only [Bool.or_eq_true,beq_iff_eq,Bool.not_eq_true'] at h0
 rcases h0 with ((h0|h0)|h0)|h0
 ·exact hne h0
 ·unfold yes at h0
  rw [ha,hb] at h0
  simp only [yey,ua,ub,Bool.and_true,bne_eq_false_iff_eq] at h0
  exact hab h0
 ·rw [h1] at h0;cases h0
 ·rw [h2] at h0;cases h0
def resV (ids:List Nat):AV->Bool
 | .ptr id _=>ids.contains id
 |_=>false
def resF (fr:Fr) (al ids:List Nat):Bool:=al.all fun a=>resV ids (fget fr a)
attribute [go_sem] resV resF
end
inductive Tr where
 |done
 |node (l:List (Nat×Tr))
def trD:List Nat->Tr
 |[]=> .done
 |i::r=> .node [(i,trD r)]
def trP:List Nat->Tr->Tr
 |[],t=>t
 |i::r,t=> .node [(i,trP r t)]
mutual
def chkT (ops:Array Oper) (listed:Array Bool):Nat->Tr->Bool
 |0, .done=>(Region.ready .any ops listed).isEmpty
 |f+1, .node l=> !(Region.ready .any ops listed).isEmpty&&(Region.ready .any ops listed==l.map (·.1))&&yoq ops listed f l
 |_,_=>false
def yoq (ops:Array Oper) (listed:Array Bool) (f:Nat):List (Nat×Tr)->Bool
 |[]=>true
 |(i,t)::r=>chkT ops (listed.setIfInBounds i true) f t&&yoq ops listed f r
end
mutual
def awT (P:Program) (N:Nat) (ops:Array Oper):Tr->Fr->Hp->(Fr->Hp->Prop)->Prop
 | .done,fr,H,K=>K fr H
 | .node l,fr,H,K=>awTs P N ops l fr H K
def awTs (P:Program) (N:Nat) (ops:Array Oper):List (Nat×Tr)->Fr->Hp->(Fr->Hp->Prop)->Prop
 |[],_,_,_=>True
 |(i,t)::r,fr,H,K=>awL P N ops ((ops[i]?).toList) fr H (fun fr' H'=>awT P N ops t fr' H' K)/\awTs P N ops r fr H K
end
theorem yho {P:Program} {N:Nat} {ops:Array Oper} {B:Nat} {w0:ybi} {Mx:Nat->Prop} {w:World} {ρ:Nat->Addr} {fr:Fr} {H:Hp} {a:Act} {K:Fr->Hp->Prop} {i:Nat} {o:Oper} (hi:ops[i]?=some o) (hq:awL P N ops [o] fr H K) (hs:Sim B w0 Mx N w ρ fr H a) (Q:Exit->Act->World->Prop) (K':Act->World->Prop) (hK: ∀a' w' ρ' fr' H',K fr' H'->Sim B w0 Mx N w' ρ' fr' H' a'->K' a' w'):wpOp P ops Q i K' a w:=by
 unfold wpOp
 rw [hi]
 simp only [awL] at hq⊢
 have hmono: ∀(a':Act) (w':World),(∃ρ' fr' H',K fr' H'/\Sim B w0 Mx N w' ρ' fr' H' a')->K' a' w':=fun a' w' ⟨ρ',fr',H',h1,h2⟩=>hK a' w' ρ' fr' H' h1 h2
 split at hq
 ·rename_i hg
  have hw:Region.wanted o (yielded ops a.tmps)=true:=by simp [Region.wanted,hg]
  rw [if_pos hw]
  exact .inl (Oper.wp_mono hmono (yex hs hq _))
 ·rename_i j b hg
  split at hq
  ·rename_i c hc
   have hy:=ye9 hs hc
   by_cases hcb:c=b
   ·have hw:Region.wanted o (yielded ops a.tmps)=true:=by simp [Region.wanted,hg,hy,hcb]
    rw [if_pos hw]
    exact .inl (Oper.wp_mono hmono (yex (hs.gput (hcb▸hc)) (hq.1 hcb) _))
   ·have hw: ¬Region.wanted o (yielded ops a.tmps)=true:=by simp [Region.wanted,hg,hy,hcb]
    rw [if_neg hw]
    have hcb':c= !b:=by cases c<;>cases b<;>simp_all
    obtain ⟨hd,hq⟩:=hq.2 hcb'
    exact hK _ _ ρ _ _ hq ((hs.gput (hcb'▸hc)).put hd (.tup [] [] rfl (fun i v x h=>by simp at h)))
  ·rename_i hc
   have hy:=yhl hs hc
   have hw: ¬Region.wanted o (yielded ops a.tmps)=true:=by simp [Region.wanted,hg,hy]
   rw [if_neg hw]
   exact hK _ _ ρ _ _ hq.2 (hs.put hq.1 (.tup [] [] rfl (fun i v x h=>by simp at h)))
  ·exact hq.elim
theorem yo8 {P:Program} {N:Nat} {ops:Array Oper} {fr:Fr} {H:Hp} {K:Fr->Hp->Prop}: ∀(l:List (Nat×Tr)),awTs P N ops l fr H K-> ∀q∈l,awL P N ops ((ops[q.1]?).toList) fr H (fun fr' H'=>awT P N ops q.2 fr' H' K)
 |[],_,q,hq=>by cases hq
 |(i,t)::r,h,q,hq=>by
  simp only [awTs] at h
  rcases List.mem_cons.1 hq with e|e
  ·subst e;exact h.1
  ·exact yo8 r h.2 q e
theorem ynt {ops:Array Oper} {listed:Array Bool} {f:Nat}: ∀(l:List (Nat×Tr)),yoq ops listed f l=true-> ∀q∈l,chkT ops (listed.setIfInBounds q.1 true) f q.2=true
 |[],_,q,hq=>by cases hq
 |(i,t)::r,h,q,hq=>by
  simp only [yoq,Bool.and_eq_true] at h
  rcases List.mem_cons.1 hq with e|e
  ·subst e;exact h.1
  ·exact ynt r h.2 q e
theorem ywk {P:Program} {N:Nat} {ops:Array Oper} {B:Nat} {w0:ybi} {Mx:Nat->Prop} {K:Fr->Hp->Prop} (Q:Exit->Act->World->Prop) (hQ: ∀a' w' ρ' fr' H',K fr' H'->Sim B w0 Mx N w' ρ' fr' H' a'->Q .normal a' w'): ∀(f:Nat) (t:Tr) (listed:Array Bool) (w:World) (ρ:Nat->Addr) (fr:Fr) (H:Hp) (a:Act),chkT ops listed f t=true->awT P N ops t fr H K->Sim B w0 Mx N w ρ fr H a->wpAny P .any ops Q f listed a w:=by
 intro f
 induction f with
 |zero=>
  intro t listed w ρ fr H a hc h hs
  cases t with
  |done=>
   simp only [chkT,List.isEmpty_iff] at hc
   simp only [awT] at h
   exact ⟨hc,hQ _ _ ρ _ _ h hs⟩
  |node l=>simp [chkT] at hc
 |succ f ih=>
  intro t listed w ρ fr H a hc h hs
  cases t with
  |done=>simp [chkT] at hc
  |node l=>
   simp only [chkT,Bool.and_eq_true,Bool.not_eq_true',beq_iff_eq] at hc
   simp only [awT] at h
   refine ⟨fun hnil=>by rw [hnil] at hc;simp at hc,fun i hi=>?_⟩
   rw [hc.1.2] at hi
   obtain ⟨q,hq,rfl⟩:=List.mem_map.1 hi
   have h1:=yo8 l h q hq
   have h2:=ynt l hc.2 q hq
   have hr:q.1∈Region.ready .any ops listed:=by rw [hc.1.2];exact List.mem_map_of_mem hq
   obtain ⟨_,o,g2,_⟩:=mem_ready.1 hr
   rw [g2] at h1
   exact yho g2 h1 hs _ _ fun a' w' ρ' fr' H' hk hs'=>ih q.2 _ w' ρ' fr' H' a' h2 hk hs'
theorem ya2.introT {P:Program} {N:Nat} {ops:Array Oper} {id:Nat} {fr:Fr} {H:Hp} {Q:Exit->Fr->Hp->Prop} (t:Tr) (hchk:chkT ops (Array.replicate ops.size false) ops.size t=true) (hm:P.follows .mixedOrders=true)
  (h:awT P N ops t fr H (Q .normal)):ya2 P N id ops fr H Q:=
 ⟨fun _ _ _ _ ρ a hs=>wp_region_any hm (ywk _ (fun _ _ ρ' fr' H' hk hs'=>⟨ρ',fr',H',hk,hs'⟩) ops.size t _ _ ρ fr H a hchk h hs.draw)⟩
section
variable {P:Program} {N:Nat} {ops:Array Oper} {fr fr':Fr} {H H':Hp} {K:Fr->Hp->Prop}
theorem ywl {t:Tr} (h1:fr=fr') (h2:H=H'):awT P N ops t fr H K=awT P N ops t fr' H' K:=by rw [h1,h2]
theorem yuk {l:List (Nat×Tr)} (h1:fr=fr') (h2:H=H'):awTs P N ops l fr H K=awTs P N ops l fr' H' K:=by rw [h1,h2]
end
attribute [congr] ywl yuk
attribute [go_sem] trD trP awT awTs Option.toList_some
section
variable (P:Program) (N:Nat) (ops:Array Oper) (base j:Nat) (fr:Fr) (H:Hp) (K:Fr->Hp->Prop)
structure yul (d:Option Nat) (Hd:Hp) (r:List Oper) (exs dls:List (List Nat)) (g:Nat) (xs:List AV) (nf:Bool):Prop where
 out:ylg P g xs Hd (base+j) (fun x=>awD P N ops base (j+1) r exs dls (fput fr d x) H K) (fun x ob=>nf=true/\awD P N ops base (j+1) r exs dls (fput fr d x) ((base+j,ob)::H) K)
def kQ (o:Oper) (r:List Oper) (exs dls:List (List Nat)) (p:Prop) (x:AV):Prop:=p/\awD P N ops base (j+1) r exs dls (fput fr o.dst x) H K
def kR (o:Oper) (r:List Oper) (exs:List (List Nat)) (dl:List Nat) (dls:List (List Nat)) (p:Prop) (x:AV):Prop:=(yak (dl.map (bk base)) H).all (fun q=>sO (yak (dl.map (bk base)) H) q.2)=true/\p/\awD P N ops base (j+1) r exs dls (fput fr o.dst x) H K
def kA (o:Oper) (r:List Oper) (exs dls:List (List Nat)) (p:Prop) (q:AV×AObj):Prop:=p/\awD P N ops base (j+1) r exs dls (fput fr o.dst q.1) ((base+j,q.2)::H) K
def kS (o:Oper) (r:List Oper) (exs dls:List (List Nat)) (p:Prop) (q:Nat×AObj):Prop:=p/\awD P N ops base (j+1) r exs dls (fput fr o.dst .any) (hset H q.1 q.2) K
def kI (o:Oper) (r:List Oper) (exs dls:List (List Nat)) (p:Prop) (q:Nat×Int×Int):Prop:=p/\awD P N ops base (j+1) r exs dls (fput fr o.dst .any) (insE H q.1 q.2.1 q.2.2) K
def kP (o:Oper) (r:List Oper) (exs dls:List (List Nat)) (p:Prop) (q:AV×Option Nat×AObj):Prop:=p/\awD P N ops base (j+1) r exs dls (fput fr o.dst q.1) ((base+j,q.2.2)::hgo H q.2.1) K
def kC (o:Oper) (r:List Oper) (exs:List (List Nat)) (dl:List Nat) (dls:List (List Nat)) (xs:List AV) (g:Nat) (cap:List AV):Prop:=(yak (dl.map (bk base)) H).all (fun q=>sO (yak (dl.map (bk base)) H) q.2)=true/\yul P N ops base j fr H K o.dst (yak (dl.map (bk base)) H) r exs dls g (xs++cap) (!(dl.map (bk base)).contains (base+j))
def awDX (o:Oper) (r:List Oper) (ex:List Nat) (exs:List (List Nat)) (dl:List Nat) (dls:List (List Nat)):Prop:=match o.op with
 | .store t x y=>mO (stF P H t (evA (fer ex fr) x) (evA (fer ex fr) y)) (kS P N ops base j fr H K o r exs dls) False
 | .insert t m k v=>mO (inF P H t (evA (fer ex fr) m) (evA (fer ex fr) k) (evA (fer ex fr) v)) (kI P N ops base j fr H K o r exs dls) False
 | .call {callee:= .builtin .append,args:=args,argTypes:=ts}=>match args.toList,ts.toList with
   |[s,x],[t,t']=>t=t'/\mO (apG P (base+j) H t (evA (fer ex fr) s) (evA (fer ex fr) x)) (kP P N ops base j fr H K o r exs dls) False
   |_,_=>False
 | .call {callee:= .value f,args:=args, .. }=>mF (evA (fsc (yak (dl.map (bk base)) H) (fer ex fr)) f) (kC P N ops base j fr H K o r exs dl dls (args.toList.map (evA (fsc (yak (dl.map (bk base)) H) (fer ex fr)))))
 |_=>False
def awDn (o:Oper) (r:List Oper) (ex:List Nat) (exs:List (List Nat)) (dl:List Nat) (dls:List (List Nat)):Prop:=cvOk P o.op=true/\dok o.dst N=true/\if ycf o.op then mO (quF P H (evA (fer ex fr)) o.op) (kQ P N ops base j fr H K o r exs dls) False
    else mO (quF P (yak (dl.map (bk base)) H) (evA (fsc (yak (dl.map (bk base)) H) (fer ex fr))) o.op) (kR P N ops base j fr H K o r exs dl dls)
     (mO (alF P (base+j) (evA (fer ex fr)) o.op) (kA P N ops base j fr H K o r exs dls) (awDX P N ops base j fr H K o r ex exs dl dls))
theorem yr7 (o:Oper) (r:List Oper) (ex:List Nat) (exs:List (List Nat)) (dl:List Nat) (dls:List (List Nat)):(awD.awDO P N base j o ex dl fr H fun fr' H'=>awD P N ops base (j+1) r exs dls fr' H' K)=awDn P N ops base j fr H K o r ex exs dl dls:=by
 unfold awD.awDO awDn awDX mO
 split
 ·rcases quF P H (evA (fer ex fr)) o.op with _|⟨p,r⟩<;>rfl
 ·rcases quF P (yak (dl.map (bk base)) H) (evA (fsc (yak (dl.map (bk base)) H) (fer ex fr))) o.op with _|⟨p,r⟩
  ·rcases alF P (base+j) (evA (fer ex fr)) o.op with _|⟨p,r,ob⟩
   ·simp only
    generalize o.op=op
    cases op<;>try rfl
    case store t x y=>
     simp only
     rcases stF P H t (evA (fer ex fr) x) (evA (fer ex fr) y) with _|⟨p,i,ob⟩<;>rfl
    case insert t m k v=>
     simp only
     rcases inF P H t (evA (fer ex fr) m) (evA (fer ex fr) k) (evA (fer ex fr) v) with _|⟨p,i,n,x⟩<;>rfl
    case call c=>
     obtain ⟨callee,args,ts⟩:=c
     cases callee<;>try rfl
     case builtin b=>
      cases b<;>try rfl
      generalize hl:args.toList=l1
      generalize hm:ts.toList=l2
      simp only [hl,hm]
      match l1,l2 with
      |[s,x],[t,t']=>
       simp only
       rcases apG P (base+j) H t (evA (fer ex fr) s) (evA (fer ex fr) x) with _|⟨p,r,g,ob⟩<;>rfl
      |[],_=>rfl
      |[_],_=>rfl
      |_::_::_::_,_=>rfl
      |[_,_],[]=>rfl
      |[_,_],[_]=>rfl
      |[_,_],_::_::_::_=>rfl
     case value f=>
      simp only [mF,kC]
      cases evA (fsc (yak (dl.map (bk base)) H) (fer ex fr)) f<;>first|rfl|(simp only [eq_iff_iff];exact ⟨fun h=>⟨h.1,h.2.1,h.2.2.1,⟨h.2.2.2⟩⟩,fun h=>⟨h.1,h.2.1,h.2.2.1,h.2.2.2.out⟩⟩)
   ·rfl
  ·rfl
def gspD (c b:Bool) (o:Oper) (r:List Oper) (ex:List Nat) (exs:List (List Nat)) (dl:List Nat) (dls:List (List Nat)):Prop:=(c=b->awDn P N ops base j fr H K o r ex exs dl dls)/\(c= !b->dok o.dst N=true/\awD P N ops base (j+1) r exs dls (fput fr o.dst (.tup [])) H K)
section
variable (o:Oper) (r:List Oper) (ex:List Nat) (exs:List (List Nat)) (dl:List Nat) (dls:List (List Nat))
theorem y3b:gspD P N ops base j fr H K true true o r ex exs dl dls=awDn P N ops base j fr H K o r ex exs dl dls:=by simp [gspD]
theorem y3c:gspD P N ops base j fr H K false false o r ex exs dl dls=awDn P N ops base j fr H K o r ex exs dl dls:=by simp [gspD]
theorem y3d:gspD P N ops base j fr H K true false o r ex exs dl dls=(dok o.dst N=true/\awD P N ops base (j+1) r exs dls (fput fr o.dst (.tup [])) H K):=by simp [gspD]
theorem y3e:gspD P N ops base j fr H K false true o r ex exs dl dls=(dok o.dst N=true/\awD P N ops base (j+1) r exs dls (fput fr o.dst (.tup [])) H K):=by simp [gspD]
end
def kG (b:Bool) (o:Oper) (r:List Oper) (ex:List Nat) (exs:List (List Nat)) (dl:List Nat) (dls:List (List Nat)) (c:Bool):Prop:=gspD P N ops base j fr H K c b o r ex exs dl dls
def kZ (o:Oper) (r:List Oper) (exs dls:List (List Nat)) (_:Unit):Prop:=dok o.dst N=true/\awD P N ops base (j+1) r exs dls (fput fr o.dst (.tup [])) H K
theorem y68 (o:Oper) (r:List Oper) (exs dls:List (List Nat)) (u:Unit):kZ P N ops base j fr H K o r exs dls u=(dok o.dst N=true/\awD P N ops base (j+1) r exs dls (fput fr o.dst (.tup [])) H K):=rfl
def awDg (o:Oper) (r:List Oper) (ex:List Nat) (exs:List (List Nat)) (dl:List Nat) (dls:List (List Nat)):Prop:=match o.guard with
 |none=>awDn P N ops base j fr H K o r ex exs dl dls
 |some (g,b)=>mG (gval ops (fer ex fr) g) (kG P N ops base j fr H K b o r ex exs dl dls) (kZ P N ops base j fr H K o r exs dls)
theorem y69 (o:Oper) (r:List Oper) (exs dls:List (List Nat)) (p:Prop) (x:AV):kQ P N ops base j fr H K o r exs dls p x=(p/\awD P N ops base (j+1) r exs dls (fput fr o.dst x) H K):=rfl
theorem y7a (o:Oper) (r:List Oper) (exs:List (List Nat)) (dl:List Nat) (dls:List (List Nat)) (p:Prop) (x:AV):kR P N ops base j fr H K o r exs dl dls p x=((yak (dl.map (bk base)) H).all (fun q=>sO (yak (dl.map (bk base)) H) q.2)=true/\p/\awD P N ops base (j+1) r exs dls (fput fr o.dst x) H K):=rfl
theorem y7b (o:Oper) (r:List Oper) (exs dls:List (List Nat)) (p:Prop) (x:AV) (y:AObj):kA P N ops base j fr H K o r exs dls p (x,y)=(p/\awD P N ops base (j+1) r exs dls (fput fr o.dst x) ((base+j,y)::H) K):=rfl
theorem y7c (o:Oper) (r:List Oper) (exs dls:List (List Nat)) (p:Prop) (x:Nat) (y:AObj):kS P N ops base j fr H K o r exs dls p (x,y)=(p/\awD P N ops base (j+1) r exs dls (fput fr o.dst .any) (hset H x y) K):=rfl
theorem y7d (o:Oper) (r:List Oper) (exs dls:List (List Nat)) (p:Prop) x y z:kI P N ops base j fr H K o r exs dls p (x,y,z)=(p/\awD P N ops base (j+1) r exs dls (fput fr o.dst .any) (insE H x y z) K):=rfl
theorem y7e (o:Oper) (r:List Oper) (exs dls:List (List Nat)) (p:Prop) x y z:kP P N ops base j fr H K o r exs dls p (x,y,z)=(p/\awD P N ops base (j+1) r exs dls (fput fr o.dst x) ((base+j,z)::hgo H y) K):=rfl
theorem y7f (o:Oper) (r:List Oper) (exs:List (List Nat)) (dl:List Nat) (dls:List (List Nat)) (xs:List AV) (g:Nat) (cap:List AV):kC P N ops base j fr H K o r exs dl dls xs g cap=((yak (dl.map (bk base)) H).all (fun q=>sO (yak (dl.map (bk base)) H) q.2)=true/\yul P N ops base j fr H K o.dst (yak (dl.map (bk base)) H) r exs dls g (xs++cap) (!(dl.map (bk base)).contains (base+j))):=rfl
theorem y7g (b:Bool) (o:Oper) (r:List Oper) (ex:List Nat) (exs:List (List Nat)) (dl:List Nat) (dls:List (List Nat)) (c:Bool):kG P N ops base j fr H K b o r ex exs dl dls c=(gspD P N ops base j fr H K c b o r ex exs dl dls):=rfl
theorem y3f (e d:List (List Nat)):awD P N ops base j [] e d fr H K=K fr H:=by simp only [awD]
theorem y0c (o:Oper) (r:List Oper) (ex:List Nat) (exs:List (List Nat)) (dl:List Nat) (dls:List (List Nat)):awD P N ops base j (o::r) (ex::exs) (dl::dls) fr H K=awDg P N ops base j fr H K o r ex exs dl dls:=by
 unfold awDg mG kG gspD kZ
 simp only [awD]
 rcases o.guard with _|⟨g,b⟩
 ·exact yr7 P N ops base j fr H K o r ex exs dl dls
 ·simp only
  rcases gval ops (fer ex fr) g with _|_|_|_|_|(_|_)|_|_|_|_|_|_|_<;>first|rfl|(simp only [gsp,yr7])
end
theorem yab {P:Program} {N:Nat} {ops:Array Oper} {base j:Nat} {fr:Fr} {H:Hp} {K:Fr->Hp->Prop} {c b:Bool} {o:Oper} {r:List Oper} {ex:List Nat} {exs:List (List Nat)} {dl:List Nat} {dls:List (List Nat)} (h1:c=b->awDn P N ops base j fr H K o r ex exs dl dls) (h2:c= !b->dok o.dst N=true/\awD P N ops base (j+1) r exs dls (fput fr o.dst (.tup [])) H K):gspD P N ops base j fr H K c b o r ex exs dl dls:=⟨h1,h2⟩
section
variable {P:Program} {N base j:Nat} {fr fr':Fr} {H H':Hp}
theorem ywm {ops:Array Oper} {r:List Oper} {e d:List (List Nat)} {j':Nat} {K:Fr->Hp->Prop} (h0:j=j') (h1:fr=fr') (h2:H=H'):awD P N ops base j r e d fr H K=awD P N ops base j' r e d fr' H' K:=by rw [h0,h1,h2]
end
def scV (H:Hp) (x:AV):AV:=if s3 H x then x else .any
def erV (b:Bool) (x:AV):AV:=if b then .any else x
theorem y3g (H:Hp) (fr:Fr) (t:Nat):fget (fsc H fr) t=scV H (fget fr t):=by
 induction fr with
 |nil=>rfl
 |cons p r ih=>
  obtain ⟨s,x⟩:=p
  simp only [fsc,fget]
  by_cases h:s=t
  ·simp [h,scV]
  ·simp only [h,if_false];exact ih
theorem y3h (ex:List Nat) (fr:Fr) (t:Nat):fget (fer ex fr) t=erV (ex.contains t) (fget fr t):=by rw [yfx];rfl
theorem y7h (x:AV):erV true x= .any:=rfl
theorem y7i (x:AV):erV false x=x:=rfl
attribute [congr] ywm
attribute [go_sem] y68 y69 y7a y7b y7c y7d y7e y7f y7g sepF sep2 sepV bne_self_eq_false inF inK inO insE insO ydp awDX awDn y3b y3c y3d y3e awDg y3f y0c
attribute [go_sem] yop y3g y3h y7h y7i scV apG apG.n2E hgo yak ycf loud List.contains_cons List.contains_nil beq_self_eq_true
attribute [go_sem] AObj.cells.injEq Cs.ints.injEq Cs.bools.injEq Cs.lst.injEq AV.int.injEq AV.sl.injEq AV.ro.injEq AV.ptr.injEq AV.agg.injEq AV.tup.injEq AV.str.injEq AV.rp.injEq AV.fn.injEq Prod.mk.injEq List.cons.injEq Int.natCast_add Int.natCast_one Int.natCast_zero Int.natCast_mul Nat.succ_eq_add_one List.length_append List.length_drop List.length_take
end Go.Proofs.YtfgbnalnbdhimaaGreatDoor
namespace Go.Proofs.YtfgbnalnbdhimaaGreatDoor
open Go Go.RowKit
structure LeA (x y:AV):Prop where
 out: ∀(w:World) (M:Nat->Prop) (ρ:Nat->Addr) (D:Nat->Prop) (v:Value),VR w M ρ D v x->VR w M ρ D v y
theorem LeA.refl (x:AV):LeA x x:=⟨fun _ _ _ _ _ h=>h⟩
theorem LeA.of {x y:AV} (h:x=y):LeA x y:=h▸LeA.refl x
theorem LeA.nils {es:Nat} {c:Cs} (he:0<es) (hc:c.len=0):LeA .nils (.ro es 0 c):=⟨fun w M ρ D v h=>by
 have e:=h.nils_inv;subst e
 exact .ro es 0 c none 0 (fun _=>undef) (by simp [hc]) (Nat.le_refl _) he (fun h=>by omega) (fun j hj=>by omega)⟩
theorem LeA.agg {xs ys:List AV} (hl:xs.length=ys.length) (h: ∀(i:Nat) (x y:AV),xs[i]?=some x->ys[i]?=some y->LeA x y):LeA (.agg xs) (.agg ys):=⟨fun w M ρ D v hv=>by
 obtain ⟨vs,rfl,hl',hx⟩:=hv.agg_inv
 refine .agg vs ys (hl'.trans hl) fun i v y hi hy=>?_
 have hlt:i<xs.length:=by
  have:=List.getElem?_eq_some_iff.1 hi;obtain ⟨h1,_⟩:=this;omega
 exact (h i xs[i] y (List.getElem?_eq_getElem hlt) hy).out w M ρ D v (hx i v _ hi (List.getElem?_eq_getElem hlt))⟩
theorem LeA.tup {xs ys:List AV} (hl:xs.length=ys.length) (h: ∀(i:Nat) (x y:AV),xs[i]?=some x->ys[i]?=some y->LeA x y):LeA (.tup xs) (.tup ys):=⟨fun w M ρ D v hv=>by
 obtain ⟨vs,rfl,hl',hx⟩:=hv.tup_inv
 refine .tup vs ys (hl'.trans hl) fun i v y hi hy=>?_
 have hlt:i<xs.length:=by
  have:=List.getElem?_eq_some_iff.1 hi;obtain ⟨h1,_⟩:=this;omega
 exact (h i xs[i] y (List.getElem?_eq_getElem hlt) hy).out w M ρ D v (hx i v _ hi (List.getElem?_eq_getElem hlt))⟩
inductive LeL:List AV->List AV->Prop where
 |nil:LeL [] []
 |cons {x y:AV} {xs ys:List AV}:LeA x y->LeL xs ys->LeL (x::xs) (y::ys)
theorem LeL.len {xs ys:List AV} (h:LeL xs ys):xs.length=ys.length:=by
 induction h with
 |nil=>rfl
 |cons _ _ ih=>simp [ih]
theorem LeL.get {xs ys:List AV} (h:LeL xs ys): ∀(i:Nat) (x y:AV),xs[i]?=some x->ys[i]?=some y->LeA x y:=by
 induction h with
 |nil=>intro i x y h;cases h
 |cons h1 _ ih=>
  intro i x y hx hy
  cases i with
  |zero=>simp only [List.getElem?_cons_zero,Option.some.injEq] at hx hy;subst hx hy;exact h1
  |succ i=>exact ih i x y (by simpa using hx) (by simpa using hy)
theorem LeA.aggL {xs ys:List AV} (h:LeL xs ys):LeA (.agg xs) (.agg ys):= .agg h.len h.get
theorem LeA.tupL {xs ys:List AV} (h:LeL xs ys):LeA (.tup xs) (.tup ys):= .tup h.len h.get
section
variable {P:Program} {f:Nat} {args:List AV} {r r':AV}
theorem Fn.le (h:Fn P f args r) (hle:LeA r r'):Fn P f args r':=
 ⟨h.1,fun w Mx vs h1 h2 h3=>(h.2 w Mx vs h1 h2 h3).mono fun _ w' ⟨v,e1,e2,e3⟩=>⟨v,e1,e2,hle.out _ _ _ _ v e3⟩⟩
def retL (P:Program) (rs:List ResultVar) (r:AV) (e:Exit) (fr:Fr) (H:Hp):Prop:=
 (e= .ret\/e= .normal)/\match resL P fr H rs with
 |some (p,l)=>p/\yan H 6 (yeq l)/\LeA (snap H 6 (yeq l)) r
 |none=>False
theorem Fn.introL {fn:Func} {c:Code} (rs:List ResultVar) (hf:P.funcs[f]?=some fn) (hb:fn.body=some c) (hrs:fn.results.toList=rs) (hn:(fn.name== "runtime.NumGoroutine")=false) (hl:args.length<=fn.ntmps/\fn.ntmps<=1000000)
  (h:WpA P fn.ntmps c (frOf 0 args) [] (retL P rs r)):Fn P f args r:=by
 subst hrs
 refine ⟨⟨fn,hf,by rw [hb];rfl,hn⟩,fun w Mx vs hMx hvl hv=>?_⟩
 have hsim0:Sim w.heap.size ⟨w,fun _=>undef⟩ Mx 0 w ρ0 [] [] {tmps:= #[],defers:=[]}:=
  ⟨Below.refl _ _,Nat.le_refl _,hMx.2,(fun id o h=>by cases h),(fun id o h=>by cases h),(fun id o _ _ h=>by cases h),fun t=> .any _,⟨rfl,fun _ hb=>hMx.1.later hb⟩,by simp,by omega⟩
 have hMe:MM Mx [] ρ0=Mx:=by
  funext x
  apply propext
  constructor
  ·rintro (g|⟨id,o,g,_⟩)
   ·exact g
   ·cases g
  ·exact Or.inl
 have hci:yba P f args [] [] (fun r' _ H'=>yan H' 6 r'/\LeA (snap H' 6 r') r):=by
  refine ⟨.inl ⟨fn,c,hf,hb,hn,hl,?_⟩⟩
  rw [show frOf 0 args++lft []=frOf 0 args by simp [lft]]
  refine h.mono fun e fr H hq=>⟨hq.1,?_⟩
  have hq2:=hq.2
  revert hq2
  cases resL P fr H fn.results.toList with
  |none=>exact fun h=>h
  |some q=>exact fun h=>h
 obtain ⟨_,hcalls⟩:=yer (P:=P) hsim0 hci hvl (fun i v x g1 g2=>by rw [hMe];exact (hv i v x g1 g2).D0)
 refine hcalls.mono ?_
 rintro e w' ⟨v,r',ρ',fr',H',rfl,⟨hp,hle⟩,hs,hvr⟩
 exact ⟨v,rfl,hs.below,hle.out _ _ _ _ v (yi5 hs (My:=Mx) (ρ0:=ρ0) (fun _ h=>h) 6 v r' hvr hp)⟩
end
attribute [go_sem] retL
end Go.Proofs.YtfgbnalnbdhimaaGreatDoor
