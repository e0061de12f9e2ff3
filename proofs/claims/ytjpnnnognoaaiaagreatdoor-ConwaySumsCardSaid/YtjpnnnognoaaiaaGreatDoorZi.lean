/- Layer 12: the text of a polynomial, as a contract. -/
import Derived.Test.YtjpnnnognoaaiaaGreatDoorTx3
import Derived.Test.YtjpnnnognoaaiaaGreatDoorZf
import Derived.Test.YtjpnnnognoaaiaaGreatDoorZh
set_option linter.unusedSimpArgs false
set_option linter.unusedVariables false
namespace Go.Proofs.YtjpnnnognoaaiaaGreatDoor
open Go Go.RowKit
set_option maxRecDepth 100000
set_option maxHeartbeats 4000000
def cok (p:List (Int×Int)):Prop:= ∀k,k<p.length-> -4611686018427387904<=(p.getD k (0,0)).1/\(p.getD k (0,0)).1<=4611686018427387904/\ -4611686018427387904<=(p.getD k (0,0)).2/\(p.getD k (0,0)).2<=4611686018427387904
def txtB (name:List UInt8) (p:List (Int×Int)):List UInt8:=if p.length=0 then [48] else txtN name p p.length
theorem y2d (name:ByteArray):Fn Tryz.prog 34 [plA false [], .str name] (.str ⟨#[48]⟩):=by
 refine Fn.intro [.tmp 4] Tryz.func34 rfl rfl (by decide) (by simp [Tryz.ntmps34]) ?_;rw [Tryz.ntmps34]
 repeat' (first|omega|(try apply yaa);simp only [go_sem,sevalprocAttr]|apply yab<;>(intro h_;(try simp only [h_]);revert h_)|apply And.intro|with_reducible intro h_|trivial|simp only [go_sem,la2];omega)
theorem y2e (p:List (Int×Int)) (name:ByteArray) (hp0:0<p.length) (hr:cok p) (hn:name.size<=1000) (hpl:p.length<=1000000):
  Fn Tryz.prog 34 [plA false p, .str name] (.str ⟨(txtN name.data.toList p p.length).toArray⟩):=by
 refine ⟨⟨_,Tryz.func34,rfl,by decide⟩,fun w Mx vs hMx hl hv=>?_⟩
 match vs,hl with
 |[v0,v1],_=>
  have h0:=hv 0 v0 _ rfl rfl
  have h1:=(hv 1 v1 _ rfl rfl).str_inv
  subst h1
  obtain ⟨us,rfl,hul,hu⟩:=h0.agg_inv
  match us,hul with
  |[u0,u1],_=>
   have k0:=(hu 0 u0 _ rfl rfl).bool_inv
   have k1:=hu 1 u1 _ rfl rfl
   subst k0
   cases k1 with
   |ro _ _ _ ad cap x hlen hcap _ hcell hx=>
    obtain ⟨a,rfl,hb,_,hj⟩:=hcell hp0
    have hcl:(Cs.lst (tmC p)).len=2*p.length:=yc0 p
    refine (yyd p name a cap w hp0 hMx.1 hb (fun k hk=>?_) hr hn hpl).mono ?_
    ·have e0:=hx (k*2) (by omega)
     have e1:=hx (k*2+1) (by omega)
     rw [show (Cs.lst (tmC p)).get (k*2)=(tmC p).getD (k*2) .any from rfl,yct p k hk] at e0
     rw [show (Cs.lst (tmC p)).get (k*2+1)=(tmC p).getD (k*2+1) .any from rfl,yez p k hk] at e1
     refine ⟨?_,?_⟩
     ·rw [hj _ (by omega),e0.int_inv]
     ·rw [hj _ (by omega),e1.int_inv]
    ·rintro e w' ⟨rfl,hb'⟩
     exact ⟨_,rfl,hb', .str _⟩
theorem y5x (p:List (Int×Int)) (name:ByteArray) (hr:cok p) (hn:name.size<=1000) (hpl:p.length<=1000000):
  Fn Tryz.prog 34 [plA false p, .str name] (.str ⟨(txtB name.data.toList p).toArray⟩):=by
 unfold txtB
 split
 ·obtain rfl:p=[]:=List.eq_nil_of_length_eq_zero (by assumption)
  exact y2d name
 ·exact y2e p name (by omega) hr hn hpl
end Go.Proofs.YtjpnnnognoaaiaaGreatDoor
set_option linter.unusedSimpArgs false
set_option linter.unusedVariables false
namespace Go.Proofs.YtjpnnnognoaaiaaGreatDoor
open Go Go.RowKit
set_option maxRecDepth 100000
set_option maxHeartbeats 8000000
theorem yyq:txtB [122] [(0,1),(2,1)]=[49,43,122,94,50]:=by decide+kernel
theorem yvv:Fn Tryz.prog 9 [] (.bool true):=by
 refine y2c ?_
 have h:=y5x [(0,1),(2,1)] ⟨#[122]⟩ (fun k hk=>by
  match k,hk with
  |0,_=>decide
  |1,_=>decide) (by decide) (by decide)
 rw [show (⟨#[122]⟩:ByteArray).data.toList=[122] from rfl,yyq] at h
 exact h
end Go.Proofs.YtjpnnnognoaaiaaGreatDoor
set_option linter.unusedSimpArgs false
set_option linter.unusedVariables false
namespace Go.Proofs.YtjpnnnognoaaiaaGreatDoor
open Go Go.RowKit
set_option maxRecDepth 100000
set_option maxHeartbeats 8000000
def grB (s m:List Int) (L:Int):Bool:=(decide (7<s.length)&&decide (s.length<=14))||(decide (60<m.length)||(decide (10<L)&&decide (L<=64)))
theorem ym2 (s m:List Int) (L:Int):Fn Tryz.prog 10 [dgA s m L] (.bool (grB s m L)):=by
 have e1:decide ((7:Int)<s.length)=decide (7<s.length):=decide_eq_decide.2 (by omega)
 have e2:decide ((s.length:Int)<=14)=decide (s.length<=14):=decide_eq_decide.2 (by omega)
 have e3:decide ((60:Int)<m.length)=decide (60<m.length):=decide_eq_decide.2 (by omega)
 unfold grB
 generalize decide (7<s.length)=x1 at*
 generalize decide (s.length<=14)=x2 at*
 generalize decide (60<m.length)=x3 at*
 obtain ⟨x4,e4⟩: ∃x,decide (10<L)=x:=⟨_,rfl⟩
 obtain ⟨x5,e5⟩: ∃x,decide (L<=64)=x:=⟨_,rfl⟩
 rw [e4,e5]
 refine Fn.intro [.tmp 2] Tryz.func10 rfl rfl (by decide) (by simp [Tryz.ntmps10]) ?_;rw [Tryz.ntmps10]
 cases x1<;>cases x2<;>cases x3<;>cases x4<;>cases x5
 all_goals (repeat' (first|omega|(try apply yaa);simp only [go_sem,sevalprocAttr,e1,e2,e3,e4,e5]|apply yab<;>(intro h_;(try simp only [h_]);revert h_)|apply And.intro|with_reducible intro h_|trivial|simp only [go_sem,la2];omega))
theorem y2f (m:List Int) (L:Int) (p:List (Int×Int)) (n:Nat) (hv:yaf [] m L=true) (h0:0<L) (hr:rsM n [] m L=some p):Fn Tryz.prog 12 [dgA [] m L] (.tup [plA false p,I 0]):=by
 have hV:=ybw [] m L
 rw [hv] at hV
 have hR:=yld n [] m L p hr
 have b0:(L==0)=false:=by rw [beq_eq_false_iff_ne];omega
 refine Fn.introL [.cell 2 34, .tmp 3] Tryz.func12 rfl rfl (by decide) (by simp [Tryz.ntmps12]) ?_;rw [Tryz.ntmps12]
 repeat' (first|omega|(try apply yaa);simp only [go_sem,sevalprocAttr,b0]|apply yab<;>(intro h_;(try simp only [h_]);revert h_)|apply And.intro|with_reducible intro h_|trivial|simp only [go_sem,la2];omega)
 all_goals refine ⟨yad.fn rfl hV ?_⟩
 all_goals (repeat' (first|omega|(try apply yaa);simp only [go_sem,sevalprocAttr,b0]|apply yab<;>(intro h_;(try simp only [h_]);revert h_)|apply And.intro|with_reducible intro h_|trivial|simp only [go_sem,la2];omega))
 all_goals refine ⟨yad.fn rfl hR ?_⟩
 all_goals (repeat' (first|omega|(try apply yaa);simp only [go_sem,sevalprocAttr,b0]|apply yab<;>(intro h_;(try simp only [h_]);revert h_)|apply And.intro|with_reducible intro h_|trivial|simp only [go_sem,la2];omega))
 all_goals exact LeA.refl _
end Go.Proofs.YtjpnnnognoaaiaaGreatDoor
set_option linter.unusedSimpArgs false
set_option linter.unusedVariables false
namespace Go.Proofs.YtjpnnnognoaaiaaGreatDoor
set_option linter.unusedVariables false
namespace Sp
def tmsF:Int->List Int->List (Int×Int)
 |_,[]=>[]
 |i,a::q=>if a=0 then tmsF (i+1) q else (i,a)::tmsF (i+1) q
theorem tmsF_mem: ∀(q:List Int) (i:Int),∀t∈tmsF i q,i<=t.1/\t.1<i+q.length/\t.2∈q/\t.2≠0
 |[],i,t,h=>by simp [tmsF] at h
 |a::q,i,t,h=>by
  unfold tmsF at h
  split at h
  ·have:=tmsF_mem q (i+1) t h
   simp only [List.length_cons,List.mem_cons]
   exact ⟨by omega,by omega, .inr this.2.2.1,this.2.2.2⟩
  ·rename_i ha
   rcases List.mem_cons.1 h with rfl|h
   ·simp only [List.length_cons];exact ⟨by omega,by omega,List.mem_cons_self,ha⟩
   ·have:=tmsF_mem q (i+1) t h
    simp only [List.length_cons,List.mem_cons]
    exact ⟨by omega,by omega, .inr this.2.2.1,this.2.2.2⟩
theorem yqy: ∀(q:List Int) (i:Int),(tmsF i q).length<=q.length
 |[],_=>Nat.le_refl _
 |a::q,i=>by unfold tmsF;have:=yqy q (i+1);split<;>simp<;>omega
end Sp
end Go.Proofs.YtjpnnnognoaaiaaGreatDoor
set_option linter.unusedSimpArgs false
set_option linter.unusedVariables false
namespace Go.Proofs.YtjpnnnognoaaiaaGreatDoor
def cfL:List (Int×Int)->Int->Int
 |[],_=>0
 |t::p,e=>(if t.1=e then t.2 else 0)+cfL p e
structure AscN (p:List (Int×Int)):Prop where
 asc:p.Pairwise fun a b=>a.1<b.1
 nz: ∀t∈p,t.2≠0
theorem y5y (p q:List (Int×Int)) (e:Int):cfL (p++q) e=cfL p e+cfL q e:=by
 induction p with
 |nil=>simp [cfL]
 |cons t p ih=>simp only [List.cons_append,cfL,ih];omega
theorem yqz {p:List (Int×Int)} {e:Int} (h: ∀t∈p,t.1≠e):cfL p e=0:=by
 induction p with
 |nil=>rfl
 |cons t p ih=>
  simp only [cfL]
  rw [if_neg (h t (List.mem_cons_self ..)),ih fun u hu=>h u (List.mem_cons_of_mem _ hu)];rfl
theorem AscN.tail {t:Int×Int} {p:List (Int×Int)} (h:AscN (t::p)):AscN p:=⟨(List.pairwise_cons.1 h.asc).2,fun u hu=>h.nz u (List.mem_cons_of_mem _ hu)⟩
theorem AscN.head {t:Int×Int} {p:List (Int×Int)} (h:AscN (t::p)): ∀u∈p,t.1<u.1:=(List.pairwise_cons.1 h.asc).1
theorem AscN.nil:AscN []:=⟨.nil,fun _ h=>by cases h⟩
theorem yhx {p:List (Int×Int)} (h:AscN p) {t:Int×Int} (ht:t∈p):cfL p t.1=t.2:=by
 induction p with
 |nil=>cases ht
 |cons u p ih=>
  simp only [cfL]
  rcases List.mem_cons.1 ht with rfl|ht
  ·rw [if_pos rfl,yqz fun v hv=>by have:=h.head v hv;omega];omega
  ·rw [if_neg (by have:=h.head t ht;omega),ih h.tail ht];omega
theorem yyr {p:List (Int×Int)} {e:Int} (h:cfL p e≠0): ∃t∈p,t.1=e:=by
 induction p with
 |nil=>exact absurd rfl h
 |cons t p ih=>
  by_cases ht:t.1=e
  ·exact ⟨t,List.mem_cons_self ..,ht⟩
  ·simp only [cfL,if_neg ht,Int.zero_add] at h
   obtain ⟨u,hu,e2⟩:=ih h
   exact ⟨u,List.mem_cons_of_mem _ hu,e2⟩
theorem AscN.ext: ∀{p q:List (Int×Int)},AscN p->AscN q->(∀e,cfL p e=cfL q e)->p=q
 |[],[],_,_,_=>rfl
 |[],t::q,_,hq,h=>by
  have:=h t.1
  rw [yhx hq (List.mem_cons_self ..)] at this
  exact absurd this.symm (hq.nz t (List.mem_cons_self ..))
 |t::p,[],hp,_,h=>by
  have:=h t.1
  rw [yhx hp (List.mem_cons_self ..)] at this
  exact absurd this (hp.nz t (List.mem_cons_self ..))
 |t::p,u::q,hp,hq,h=>by
  have m1:cfL (t::p) t.1=t.2:=yhx hp (List.mem_cons_self ..)
  have m2:cfL (u::q) u.1=u.2:=yhx hq (List.mem_cons_self ..)
  have n1:=hp.nz t (List.mem_cons_self ..)
  have n2:=hq.nz u (List.mem_cons_self ..)
  have e1:t.1=u.1:=by
   obtain ⟨v,hv,ev⟩:=yyr (p:=u::q) (e:=t.1) (by rw [←h,m1];exact n1)
   obtain ⟨w,hw,ew⟩:=yyr (p:=t::p) (e:=u.1) (by rw [h,m2];exact n2)
   rcases List.mem_cons.1 hv with rfl|hv
   ·exact ev.symm
   ·rcases List.mem_cons.1 hw with rfl|hw
    ·exact ew
    ·have:=hq.head v hv
     have:=hp.head w hw
     omega
  have e2:t.2=u.2:=by rw [←m1,←m2,h,e1]
  have et:t=u:=Prod.ext e1 e2
  subst et
  rw [AscN.ext hp.tail hq.tail fun e=>by have:=h e;simp only [cfL] at this;omega]
theorem yto: ∀(e:Int) (l:List Int),∀t∈tmI e l,e<=t.1/\t.1<e+l.length
 |_,[],t,ht=>by cases ht
 |e,c::r,t,ht=>by
  simp only [tmI] at ht
  have key:t∈tmI (e+1) r->e<=t.1/\t.1<e+(c::r).length:=fun h=>by
   have:=yto (e+1) r t h
   simp only [List.length_cons];omega
  split at ht
  ·exact key ht
  ·rcases List.mem_cons.1 ht with rfl|ht
   ·simp only [List.length_cons];omega
   ·exact key ht
theorem ytp: ∀(e:Int) (l:List Int),AscN (tmI e l)
 |_,[]=> .nil
 |e,c::r=>by
  have ih:=ytp (e+1) r
  simp only [tmI]
  split
  ·exact ih
  ·rename_i h
   refine ⟨List.pairwise_cons.2 ⟨fun u hu=>by have:=yto (e+1) r u hu;show e<u.1;omega,ih.asc⟩,fun u hu=>?_⟩
   rcases List.mem_cons.1 hu with rfl|hu
   ·exact h
   ·exact ih.nz u hu
theorem ynx: ∀(e:Int) (l:List Int) (x:Int),cfL (tmI e l) x=if e<=x then l.getD (x-e).toNat 0 else 0
 |e,[],x=>by simp [tmI,cfL]
 |e,c::r,x=>by
  have ih:=ynx (e+1) r x
  by_cases hx:e=x
  ·subst hx
   rw [if_neg (by omega)] at ih
   simp only [tmI]
   split
   ·rename_i h;rw [ih,if_pos (Int.le_refl _)];simp [h]
   ·simp only [cfL,ih];simp
  ·have k:cfL (tmI e (c::r)) x=cfL (tmI (e+1) r) x:=by
    simp only [tmI]
    split
    ·rfl
    ·simp only [cfL];rw [if_neg hx];omega
   rw [k,ih]
   by_cases hl:e+1<=x
   ·rw [if_pos hl,if_pos (by omega)]
    obtain ⟨d,hd⟩: ∃d:Nat,x=e+1+d:=⟨(x-e-1).toNat,by omega⟩
    rw [hd,show (e+1+(d:Int)-e).toNat=d+1 by omega,show (e+1+(d:Int)-(e+1)).toNat=d by omega,List.getD_cons_succ]
   ·rw [if_neg hl,if_neg (by omega)]
def cvL (p:List (Int×Int)) (g:Int->Int) (e:Int):Int:=match p with
 |[]=>0
 |t::p=>t.2*g (e-t.1)+cvL p g e
theorem yc5 (l:List Int) (i j:Nat) (v:Int) (hi:i<l.length):(l.set i v).getD j 0=if i=j then v else l.getD j 0:=by
 by_cases h:i=j
 ·subst h;simp [hi]
 ·rw [if_neg h];simp [List.getD_eq_getElem?_getD,List.getElem?_set_ne h]
theorem y2g (p:List (Int×Int)) (t:Int×Int) (e:Int):cfL (p++[t]) e=cfL p e+if t.1=e then t.2 else 0:=by
 rw [y5y];simp [cfL]
theorem ym3 {α:Type} {l:List α} {k:Nat} (d:α) (h:k<l.length):l.take (k+1)=l.take k++[l.getD k d]:=by
 rw [List.take_succ_eq_append_getElem h];simp [h]
theorem ytq (q:List (Int×Int)) (low e c:Int) (zs:List Int) (hr: ∀j,j<q.length->low<=e+(q.getD j (0,0)).1/\e+(q.getD j (0,0)).1<low+zs.length):
  ∀j,j<=q.length-> ∀x:Nat,x<zs.length->(pz2 q low e c j zs).getD x 0=zs.getD x 0+c*cfL (q.take j) (low+x-e)
 |0,_,x,_=>by simp [pz2,cfL]
 |j+1,hj,x,hx=>by
  have ih:=ytq q low e c zs hr j (by omega)
  have h1:=hr j (by omega)
  have hl:=yke q low e c j zs
  rw [ym3 (0,0) (by omega),y2g]
  simp only [pz2]
  rw [yc5 _ _ _ _ (by omega)]
  by_cases h:(e+(q.getD j (0,0)).1-low).toNat=x
  ·rw [if_pos h,h,ih x hx,if_pos (by omega),Int.mul_add];omega
  ·rw [if_neg h,ih x hx,if_neg (by omega),Int.add_zero]
theorem y2h (p:List (Int×Int)) (t:Int×Int) (g:Int->Int) (e:Int):cvL (p++[t]) g e=cvL p g e+t.2*g (e-t.1):=by
 induction p with
 |nil=>simp [cvL]
 |cons u p ih=>simp only [List.cons_append,cvL,ih];omega
theorem ytr (p q:List (Int×Int)) (low:Int) (zs:List Int) (hr: ∀i j,i<p.length->j<q.length->low<=(p.getD i (0,0)).1+(q.getD j (0,0)).1/\(p.getD i (0,0)).1+(q.getD j (0,0)).1<low+zs.length):
  ∀i,i<=p.length-> ∀x:Nat,x<zs.length->(pz1 p q low i zs).getD x 0=zs.getD x 0+cvL (p.take i) (cfL q) (low+x)
 |0,_,x,_=>by simp [pz1,cvL]
 |i+1,hi,x,hx=>by
  have ih:=ytr p q low zs hr i (by omega)
  have hl:=yhw p q low i zs
  simp only [pz1]
  rw [ytq q low _ _ _ (fun j hj=>by have:=hr i j (by omega) hj;rw [hl];exact this) q.length (Nat.le_refl _) x (by omega),ih x hx,ym3 (0,0) (by omega),y2h,List.take_length]
  omega
theorem yq0 {p:List (Int×Int)} {g:Int->Int} {e:Int} (h: ∀t∈p,g (e-t.1)=0):cvL p g e=0:=by
 induction p with
 |nil=>rfl
 |cons t p ih=>simp only [cvL,h t (List.mem_cons_self ..),ih fun u hu=>h u (List.mem_cons_of_mem _ hu)];simp
theorem ygj {p:List (Int×Int)} (h:AscN p) {t:Int×Int} (ht:t∈p):lowE p<=t.1/\t.1<=yce p:=by
 obtain ⟨i,hi,rfl⟩:=List.mem_iff_getElem.1 ht
 have P:=List.pairwise_iff_getElem.1 h.asc
 unfold lowE yce
 simp only [List.getD_eq_getElem?_getD,List.getElem?_eq_getElem (show 0<p.length by omega),List.getElem?_eq_getElem (show p.length-1<p.length by omega),Option.getD_some]
 constructor
 ·by_cases h0:i=0
  ·subst h0;exact Int.le_refl _
  ·have:=P 0 i (by omega) hi (by omega);omega
 ·by_cases h0:i=p.length-1
  ·subst h0;exact Int.le_refl _
  ·have:=P i (p.length-1) hi (by omega) (by omega);omega
theorem ydf {p:List (Int×Int)} {i:Nat} (hi:i<p.length):p.getD i (0,0)∈p:=by
 simp [List.getD_eq_getElem?_getD,List.getElem?_eq_getElem hi]
theorem y5z {p q:List (Int×Int)} (hp:AscN p) (hq:AscN q) (e:Int):cfL (tmI (lowE p+lowE q) (mulZ p q)) e=cvL p (cfL q) e:=by
 rw [ynx]
 unfold mulZ
 obtain ⟨N,hN⟩: ∃N:Nat,(yce p+yce q-(lowE p+lowE q)+1).toNat=N:=⟨_,rfl⟩
 rw [hN]
 have out: ∀e,(∀t∈p,∀u∈q,t.1+u.1≠e)->cvL p (cfL q) e=0:=fun e h=>yq0 fun t ht=>yqz fun u hu=>by have:=h t ht u hu;omega
 by_cases h1:lowE p+lowE q<=e
 ·rw [if_pos h1]
  obtain ⟨x,hx⟩: ∃x:Nat,e=lowE p+lowE q+x:=⟨(e-(lowE p+lowE q)).toNat,by omega⟩
  rw [hx,show (lowE p+lowE q+(x:Int)-(lowE p+lowE q)).toNat=x by omega]
  have hl:=yhw p q (lowE p+lowE q) p.length (List.replicate N 0)
  rw [List.length_replicate] at hl
  by_cases h2:x<N
  ·rw [ytr p q _ _ (fun i j hi hj=>?_) p.length (Nat.le_refl _) x (by simpa using h2),List.take_length]
   ·simp [List.getD_eq_getElem?_getD,h2]
   ·have a:=ygj hp (ydf hi)
    have b:=ygj hq (ydf hj)
    rw [List.length_replicate];omega
  ·rw [List.getD_eq_getElem?_getD,List.getElem?_eq_none (by omega)]
   exact (out _ fun t ht u hu=>by have a:=ygj hp ht;have b:=ygj hq hu;omega).symm
 ·rw [if_neg h1]
  exact (out _ fun t ht u hu=>by have a:=ygj hp ht;have b:=ygj hq hu;omega).symm
end Go.Proofs.YtjpnnnognoaaiaaGreatDoor
namespace Go.Proofs.YtjpnnnognoaaiaaGreatDoor
set_option linter.unusedVariables false
set_option linter.unusedSimpArgs false
theorem yts: ∀(q:List Int) (i:Int),AscN (Sp.tmsF i q)
 |[],i=>⟨.nil,fun t ht=>by cases ht⟩
 |a::q,i=>by
  have ih:=yts q (i+1)
  unfold Sp.tmsF
  split
  ·exact ih
  ·rename_i ha
   refine ⟨List.pairwise_cons.2 ⟨fun t ht=>?_,ih.asc⟩,fun t ht=>?_⟩
   ·have:=Sp.tmsF_mem q (i+1) t ht
    show i<t.1;omega
   ·rcases List.mem_cons.1 ht with rfl|h
    ·exact ha
    ·exact ih.nz t h
theorem yys: ∀(q:List Int) (i e:Int),cfL (Sp.tmsF i q) e=if i<=e then q.getD (e-i).toNat 0 else 0
 |[],i,e=>by simp [Sp.tmsF,cfL]
 |a::q,i,e=>by
  have ih:=yys q (i+1) e
  have hs:i+1<=e->(a::q).getD (e-i).toNat 0=q.getD (e-(i+1)).toNat 0:=fun h=>by
   rw [show (e-i).toNat=(e-(i+1)).toNat+1 by omega];simp
  unfold Sp.tmsF
  split
  ·rename_i ha
   rw [ih]
   by_cases h:i+1<=e
   ·rw [if_pos h,if_pos (by omega),hs h]
   ·rw [if_neg h]
    by_cases h2:i<=e
    ·rw [if_pos h2,show (e-i).toNat=0 by omega];simp [ha]
    ·rw [if_neg h2]
  ·simp only [cfL]
   rw [ih]
   by_cases h:i=e
   ·rw [if_pos h,if_neg (by omega),if_pos (by omega),show (e-i).toNat=0 by omega];simp
   ·rw [if_neg h]
    by_cases h2:i+1<=e
    ·rw [if_pos h2,if_pos (by omega),hs h2];omega
    ·rw [if_neg h2,if_neg (by omega)];rfl
end Go.Proofs.YtjpnnnognoaaiaaGreatDoor
