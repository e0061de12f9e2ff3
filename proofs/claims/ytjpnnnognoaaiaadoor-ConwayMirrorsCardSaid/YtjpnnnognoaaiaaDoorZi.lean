/- Layer 12: the text of a polynomial, as a contract. -/
import Derived.Test.YtjpnnnognoaaiaaDoorTx3
import Derived.Test.YtjpnnnognoaaiaaDoorZf
import Derived.Test.YtjpnnnognoaaiaaDoorZh
set_option linter.unusedSimpArgs false
set_option linter.unusedVariables false
namespace Go.Proofs.YtjpnnnognoaaiaaDoor
open Go Go.RowKit
set_option maxRecDepth 100000
set_option maxHeartbeats 4000000
def cok (p:List (Int×Int)):Prop:= ∀k,k<p.length-> -4611686018427387904<=(p.getD k (0,0)).1/\(p.getD k (0,0)).1<=4611686018427387904/\ -4611686018427387904<=(p.getD k (0,0)).2/\(p.getD k (0,0)).2<=4611686018427387904
def txtB (name:List UInt8) (p:List (Int×Int)):List UInt8:=if p.length=0 then [48] else txtN name p p.length
theorem y1u (name:ByteArray):Fn Tryd.prog 19 [plA false [], .str name] (.str ⟨#[48]⟩):=by
 refine Fn.intro [.tmp 4] Tryd.func19 rfl rfl (by decide) (by simp [Tryd.ntmps19]) ?_;rw [Tryd.ntmps19]
 repeat' (first|omega|(try apply yaa);simp only [go_sem,sevalprocAttr]|apply yab<;>(intro h_;(try simp only [h_]);revert h_)|apply And.intro|with_reducible intro h_|trivial|simp only [go_sem,la2];omega)
theorem y1v (p:List (Int×Int)) (name:ByteArray) (hp0:0<p.length) (hr:cok p) (hn:name.size<=1000) (hpl:p.length<=1000000):
  Fn Tryd.prog 19 [plA false p, .str name] (.str ⟨(txtN name.data.toList p p.length).toArray⟩):=by
 refine ⟨⟨_,Tryd.func19,rfl,by decide⟩,fun w Mx vs hMx hl hv=>?_⟩
 match vs,hl with
 |[v0,v1],_=>
  have h0:=hv 0 v0 _ rfl rfl
  have h1:=(hv 1 v1 _ rfl rfl).str_inv
  subst h1
  obtain ⟨us,rfl,hul,hu⟩:=h0.agg_inv
  match us,hul with
  |[u0,u1],_=>
   have k0:=(hu 0 u0 _ rfl rfl).bool_inv
   have k1:=hu 1 u1 _ rfl rfl
   subst k0
   cases k1 with
   |ro _ _ _ ad cap x hlen hcap _ hcell hx=>
    obtain ⟨a,rfl,hb,_,hj⟩:=hcell hp0
    have hcl:(Cs.lst (tmC p)).len=2*p.length:=ydr p
    refine (yx1 p name a cap w hp0 hMx.1 hb (fun k hk=>?_) hr hn hpl).mono ?_
    ·have e0:=hx (k*2) (by omega)
     have e1:=hx (k*2+1) (by omega)
     rw [show (Cs.lst (tmC p)).get (k*2)=(tmC p).getD (k*2) .any from rfl,ycj p k hk] at e0
     rw [show (Cs.lst (tmC p)).get (k*2+1)=(tmC p).getD (k*2+1) .any from rfl,ydy p k hk] at e1
     refine ⟨?_,?_⟩
     ·rw [hj _ (by omega),e0.int_inv]
     ·rw [hj _ (by omega),e1.int_inv]
    ·rintro e w' ⟨rfl,hb'⟩
     exact ⟨_,rfl,hb', .str _⟩
theorem y47 (p:List (Int×Int)) (name:ByteArray) (hr:cok p) (hn:name.size<=1000) (hpl:p.length<=1000000):
  Fn Tryd.prog 19 [plA false p, .str name] (.str ⟨(txtB name.data.toList p).toArray⟩):=by
 unfold txtB
 split
 ·obtain rfl:p=[]:=List.eq_nil_of_length_eq_zero (by assumption)
  exact y1u name
 ·exact y1v p name (by omega) hr hn hpl
end Go.Proofs.YtjpnnnognoaaiaaDoor
set_option linter.unusedSimpArgs false
set_option linter.unusedVariables false
namespace Go.Proofs.YtjpnnnognoaaiaaDoor
open Go Go.RowKit
set_option maxRecDepth 100000
set_option maxHeartbeats 8000000
theorem yye:txtB [122] [(0,1),(2,1)]=[49,43,122,94,50]:=by decide+kernel
theorem yvf:Fn Tryd.prog 4 [] (.bool true):=by
 refine y1t ?_
 have h:=y47 [(0,1),(2,1)] ⟨#[122]⟩ (fun k hk=>by
  match k,hk with
  |0,_=>decide
  |1,_=>decide) (by decide) (by decide)
 rw [show (⟨#[122]⟩:ByteArray).data.toList=[122] from rfl,yye] at h
 exact h
end Go.Proofs.YtjpnnnognoaaiaaDoor
set_option linter.unusedSimpArgs false
set_option linter.unusedVariables false
namespace Go.Proofs.YtjpnnnognoaaiaaDoor
open Go Go.RowKit
set_option maxRecDepth 100000
set_option maxHeartbeats 8000000
def grB (s m:List Int) (L:Int):Bool:=(decide (7<s.length)&&decide (s.length<=14))||(decide (60<m.length)||(decide (10<L)&&decide (L<=64)))
theorem yvg (s m:List Int) (L:Int):Fn Tryd.prog 5 [dgA s m L] (.bool (grB s m L)):=by
 have e1:decide ((7:Int)<s.length)=decide (7<s.length):=decide_eq_decide.2 (by omega)
 have e2:decide ((s.length:Int)<=14)=decide (s.length<=14):=decide_eq_decide.2 (by omega)
 have e3:decide ((60:Int)<m.length)=decide (60<m.length):=decide_eq_decide.2 (by omega)
 unfold grB
 generalize decide (7<s.length)=x1 at*
 generalize decide (s.length<=14)=x2 at*
 generalize decide (60<m.length)=x3 at*
 obtain ⟨x4,e4⟩: ∃x,decide (10<L)=x:=⟨_,rfl⟩
 obtain ⟨x5,e5⟩: ∃x,decide (L<=64)=x:=⟨_,rfl⟩
 rw [e4,e5]
 refine Fn.intro [.tmp 2] Tryd.func5 rfl rfl (by decide) (by simp [Tryd.ntmps5]) ?_;rw [Tryd.ntmps5]
 cases x1<;>cases x2<;>cases x3<;>cases x4<;>cases x5
 all_goals (repeat' (first|omega|(try apply yaa);simp only [go_sem,sevalprocAttr,e1,e2,e3,e4,e5]|apply yab<;>(intro h_;(try simp only [h_]);revert h_)|apply And.intro|with_reducible intro h_|trivial|simp only [go_sem,la2];omega))
theorem y1w (s m:List Int) (L:Int) (hv:yag s m L=false):Fn Tryd.prog 6 [dgA s m L] (.tup [plA false [],I 1]):=by
 have hV:=ybs s m L
 rw [hv] at hV
 refine Fn.introL [.cell 2 29, .tmp 3] Tryd.func6 rfl rfl (by decide) (by simp [Tryd.ntmps6]) ?_;rw [Tryd.ntmps6]
 repeat' (first|omega|(try apply yaa);simp only [go_sem,sevalprocAttr]|apply yab<;>(intro h_;(try simp only [h_]);revert h_)|apply And.intro|with_reducible intro h_|trivial|simp only [go_sem,la2];omega)
 all_goals refine ⟨yae.fn rfl hV ?_⟩
 all_goals (repeat' (first|omega|(try apply yaa);simp only [go_sem,sevalprocAttr]|apply yab<;>(intro h_;(try simp only [h_]);revert h_)|apply And.intro|with_reducible intro h_|trivial|simp only [go_sem,la2];omega))
 all_goals exact LeA.tupL (.cons ygg (.cons (LeA.refl _) .nil))
theorem y1x (m:List Int) (hv:yag [] m 0=true):Fn Tryd.prog 6 [dgA [] m 0] (.tup [plA false [],I 8]):=by
 have hV:=ybs [] m 0
 rw [hv] at hV
 refine Fn.introL [.cell 2 29, .tmp 3] Tryd.func6 rfl rfl (by decide) (by simp [Tryd.ntmps6]) ?_;rw [Tryd.ntmps6]
 repeat' (first|omega|(try apply yaa);simp only [go_sem,sevalprocAttr]|apply yab<;>(intro h_;(try simp only [h_]);revert h_)|apply And.intro|with_reducible intro h_|trivial|simp only [go_sem,la2];omega)
 all_goals refine ⟨yae.fn rfl hV ?_⟩
 all_goals (repeat' (first|omega|(try apply yaa);simp only [go_sem,sevalprocAttr]|apply yab<;>(intro h_;(try simp only [h_]);revert h_)|apply And.intro|with_reducible intro h_|trivial|simp only [go_sem,la2];omega))
 all_goals exact LeA.tupL (.cons ygg (.cons (LeA.refl _) .nil))
theorem y1y (s m:List Int) (L:Int) (hv:yag s m L=true) (h:14<s.length):Fn Tryd.prog 6 [dgA s m L] (.tup [plA false [],I 5]):=by
 have hV:=ybs s m L
 rw [hv] at hV
 have b0:((s.length:Int)==0)=false:=by rw [beq_eq_false_iff_ne];omega
 have b1:decide ((14:Int)<s.length)=true:=by rw [decide_eq_true_iff];omega
 refine Fn.introL [.cell 2 29, .tmp 3] Tryd.func6 rfl rfl (by decide) (by simp [Tryd.ntmps6]) ?_;rw [Tryd.ntmps6]
 repeat' (first|omega|(try apply yaa);simp only [go_sem,sevalprocAttr,b0,b1]|apply yab<;>(intro h_;(try simp only [h_]);revert h_)|apply And.intro|with_reducible intro h_|trivial|simp only [go_sem,la2];omega)
 all_goals refine ⟨yae.fn rfl hV ?_⟩
 all_goals (repeat' (first|omega|(try apply yaa);simp only [go_sem,sevalprocAttr,b0,b1]|apply yab<;>(intro h_;(try simp only [h_]);revert h_)|apply And.intro|with_reducible intro h_|trivial|simp only [go_sem,la2];omega))
 all_goals exact LeA.tupL (.cons ygg (.cons (LeA.refl _) .nil))
theorem y1z (m:List Int) (L:Int) (p:List (Int×Int)) (n:Nat) (hv:yag [] m L=true) (h0:0<L) (hr:rsM n [] m L=some p):Fn Tryd.prog 6 [dgA [] m L] (.tup [plA false p,I 0]):=by
 have hV:=ybs [] m L
 rw [hv] at hV
 have hR:=ylg n [] m L p hr
 have b0:(L==0)=false:=by rw [beq_eq_false_iff_ne];omega
 refine Fn.introL [.cell 2 29, .tmp 3] Tryd.func6 rfl rfl (by decide) (by simp [Tryd.ntmps6]) ?_;rw [Tryd.ntmps6]
 repeat' (first|omega|(try apply yaa);simp only [go_sem,sevalprocAttr,b0]|apply yab<;>(intro h_;(try simp only [h_]);revert h_)|apply And.intro|with_reducible intro h_|trivial|simp only [go_sem,la2];omega)
 all_goals refine ⟨yae.fn rfl hV ?_⟩
 all_goals (repeat' (first|omega|(try apply yaa);simp only [go_sem,sevalprocAttr,b0]|apply yab<;>(intro h_;(try simp only [h_]);revert h_)|apply And.intro|with_reducible intro h_|trivial|simp only [go_sem,la2];omega))
 all_goals refine ⟨yae.fn rfl hR ?_⟩
 all_goals (repeat' (first|omega|(try apply yaa);simp only [go_sem,sevalprocAttr,b0]|apply yab<;>(intro h_;(try simp only [h_]);revert h_)|apply And.intro|with_reducible intro h_|trivial|simp only [go_sem,la2];omega))
 all_goals exact LeA.refl _
end Go.Proofs.YtjpnnnognoaaiaaDoor
set_option linter.unusedSimpArgs false
set_option linter.unusedVariables false
namespace Go.Proofs.YtjpnnnognoaaiaaDoor
set_option linter.unusedVariables false
namespace Sp
def tmsF:Int->List Int->List (Int×Int)
 |_,[]=>[]
 |i,a::q=>if a=0 then tmsF (i+1) q else (i,a)::tmsF (i+1) q
theorem tmsF_mem: ∀(q:List Int) (i:Int),∀t∈tmsF i q,i<=t.1/\t.1<i+q.length/\t.2∈q/\t.2≠0
 |[],i,t,h=>by simp [tmsF] at h
 |a::q,i,t,h=>by
  unfold tmsF at h
  split at h
  ·have:=tmsF_mem q (i+1) t h
   simp only [List.length_cons,List.mem_cons]
   exact ⟨by omega,by omega, .inr this.2.2.1,this.2.2.2⟩
  ·rename_i ha
   rcases List.mem_cons.1 h with rfl|h
   ·simp only [List.length_cons];exact ⟨by omega,by omega,List.mem_cons_self,ha⟩
   ·have:=tmsF_mem q (i+1) t h
    simp only [List.length_cons,List.mem_cons]
    exact ⟨by omega,by omega, .inr this.2.2.1,this.2.2.2⟩
theorem yqu: ∀(q:List Int) (i:Int),(tmsF i q).length<=q.length
 |[],_=>Nat.le_refl _
 |a::q,i=>by unfold tmsF;have:=yqu q (i+1);split<;>simp<;>omega
end Sp
end Go.Proofs.YtjpnnnognoaaiaaDoor
set_option linter.unusedSimpArgs false
set_option linter.unusedVariables false
namespace Go.Proofs.YtjpnnnognoaaiaaDoor
def cfL:List (Int×Int)->Int->Int
 |[],_=>0
 |t::p,e=>(if t.1=e then t.2 else 0)+cfL p e
structure AscN (p:List (Int×Int)):Prop where
 asc:p.Pairwise fun a b=>a.1<b.1
 nz: ∀t∈p,t.2≠0
theorem yck {p:List (Int×Int)} {e:Int} (h: ∀t∈p,t.1≠e):cfL p e=0:=by
 induction p with
 |nil=>rfl
 |cons t p ih=>
  simp only [cfL]
  rw [if_neg (h t (List.mem_cons_self ..)),ih fun u hu=>h u (List.mem_cons_of_mem _ hu)];rfl
theorem AscN.tail {t:Int×Int} {p:List (Int×Int)} (h:AscN (t::p)):AscN p:=⟨(List.pairwise_cons.1 h.asc).2,fun u hu=>h.nz u (List.mem_cons_of_mem _ hu)⟩
theorem AscN.head {t:Int×Int} {p:List (Int×Int)} (h:AscN (t::p)): ∀u∈p,t.1<u.1:=(List.pairwise_cons.1 h.asc).1
theorem AscN.nil:AscN []:=⟨.nil,fun _ h=>by cases h⟩
theorem ygh {p:List (Int×Int)} (h:AscN p) {t:Int×Int} (ht:t∈p):cfL p t.1=t.2:=by
 induction p with
 |nil=>cases ht
 |cons u p ih=>
  simp only [cfL]
  rcases List.mem_cons.1 ht with rfl|ht
  ·rw [if_pos rfl,yck fun v hv=>by have:=h.head v hv;omega];omega
  ·rw [if_neg (by have:=h.head t ht;omega),ih h.tail ht];omega
theorem yyf {p:List (Int×Int)} {e:Int} (h:cfL p e≠0): ∃t∈p,t.1=e:=by
 induction p with
 |nil=>exact absurd rfl h
 |cons t p ih=>
  by_cases ht:t.1=e
  ·exact ⟨t,List.mem_cons_self ..,ht⟩
  ·simp only [cfL,if_neg ht,Int.zero_add] at h
   obtain ⟨u,hu,e2⟩:=ih h
   exact ⟨u,List.mem_cons_of_mem _ hu,e2⟩
theorem AscN.ext: ∀{p q:List (Int×Int)},AscN p->AscN q->(∀e,cfL p e=cfL q e)->p=q
 |[],[],_,_,_=>rfl
 |[],t::q,_,hq,h=>by
  have:=h t.1
  rw [ygh hq (List.mem_cons_self ..)] at this
  exact absurd this.symm (hq.nz t (List.mem_cons_self ..))
 |t::p,[],hp,_,h=>by
  have:=h t.1
  rw [ygh hp (List.mem_cons_self ..)] at this
  exact absurd this (hp.nz t (List.mem_cons_self ..))
 |t::p,u::q,hp,hq,h=>by
  have m1:cfL (t::p) t.1=t.2:=ygh hp (List.mem_cons_self ..)
  have m2:cfL (u::q) u.1=u.2:=ygh hq (List.mem_cons_self ..)
  have n1:=hp.nz t (List.mem_cons_self ..)
  have n2:=hq.nz u (List.mem_cons_self ..)
  have e1:t.1=u.1:=by
   obtain ⟨v,hv,ev⟩:=yyf (p:=u::q) (e:=t.1) (by rw [←h,m1];exact n1)
   obtain ⟨w,hw,ew⟩:=yyf (p:=t::p) (e:=u.1) (by rw [h,m2];exact n2)
   rcases List.mem_cons.1 hv with rfl|hv
   ·exact ev.symm
   ·rcases List.mem_cons.1 hw with rfl|hw
    ·exact ew
    ·have:=hq.head v hv
     have:=hp.head w hw
     omega
  have e2:t.2=u.2:=by rw [←m1,←m2,h,e1]
  have et:t=u:=Prod.ext e1 e2
  subst et
  rw [AscN.ext hp.tail hq.tail fun e=>by have:=h e;simp only [cfL] at this;omega]
theorem y65 (l:List (Int×Int)) (e:Int):cfL (nz l) e=cfL l e:=by
 induction l with
 |nil=>rfl
 |cons t l ih=>
  unfold nz at ih⊢
  by_cases h:t.2=0
  ·rw [List.filter_cons_of_neg (by simp [h]),ih];simp only [cfL,h];split<;>omega
  ·rw [List.filter_cons_of_pos (by simp [h])];simp only [cfL,ih]
theorem yhz (f:Int->Int->Int) (x:Int): ∀p q:List (Int×Int),(∀t∈p,x<t.1)->(∀t∈q,x<t.1)-> ∀t∈mrg f p q,x<t.1:=by
 intro p q
 induction p,q using mrg.induct with
 |case1=>intro _ _ t ht;simp [mrg] at ht
 |case2 e a p ih=>
  intro hp hq t ht
  unfold mrg at ht
  rcases List.mem_cons.1 ht with rfl|ht
  ·exact hp (e,a) (List.mem_cons_self ..)
  ·exact ih (fun u hu=>hp u (List.mem_cons_of_mem _ hu)) hq t ht
 |case3 e b q ih=>
  intro hp hq t ht
  unfold mrg at ht
  rcases List.mem_cons.1 ht with rfl|ht
  ·exact hq (e,b) (List.mem_cons_self ..)
  ·exact ih hp (fun u hu=>hq u (List.mem_cons_of_mem _ hu)) t ht
 |case4 e a p e' b q h ih=>
  intro hp hq t ht
  unfold mrg at ht
  rw [if_pos h] at ht
  rcases List.mem_cons.1 ht with rfl|ht
  ·exact hp (e,a) (List.mem_cons_self ..)
  ·exact ih (fun u hu=>hp u (List.mem_cons_of_mem _ hu)) hq t ht
 |case5 e a p e' b q h h2 ih=>
  intro hp hq t ht
  unfold mrg at ht
  rw [if_neg h,if_pos h2] at ht
  rcases List.mem_cons.1 ht with rfl|ht
  ·exact hq (e',b) (List.mem_cons_self ..)
  ·exact ih hp (fun u hu=>hq u (List.mem_cons_of_mem _ hu)) t ht
 |case6 e a p e' b q h h2 ih=>
  intro hp hq t ht
  unfold mrg at ht
  rw [if_neg h,if_neg h2] at ht
  rcases List.mem_cons.1 ht with rfl|ht
  ·exact hp (e,a) (List.mem_cons_self ..)
  ·exact ih (fun u hu=>hp u (List.mem_cons_of_mem _ hu)) (fun u hu=>hq u (List.mem_cons_of_mem _ hu)) t ht
theorem y48 (f:Int->Int->Int): ∀p q:List (Int×Int),p.Pairwise (fun a b=>a.1<b.1)->q.Pairwise (fun a b=>a.1<b.1)->(mrg f p q).Pairwise fun a b=>a.1<b.1:=by
 intro p q
 induction p,q using mrg.induct with
 |case1=>intro _ _;simp [mrg]
 |case2 e a p ih=>
  intro hp hq
  unfold mrg
  have h1:=List.pairwise_cons.1 hp
  exact List.pairwise_cons.2 ⟨yhz f e p [] h1.1 (fun _ h=>by cases h),ih h1.2 hq⟩
 |case3 e b q ih=>
  intro hp hq
  unfold mrg
  have h1:=List.pairwise_cons.1 hq
  exact List.pairwise_cons.2 ⟨yhz f e [] q (fun _ h=>by cases h) h1.1,ih hp h1.2⟩
 |case4 e a p e' b q h ih=>
  intro hp hq
  unfold mrg
  rw [if_pos h]
  have h1:=List.pairwise_cons.1 hp
  have h2:=List.pairwise_cons.1 hq
  refine List.pairwise_cons.2 ⟨yhz f e p _ h1.1 (fun t ht=>?_),ih h1.2 hq⟩
  rcases List.mem_cons.1 ht with rfl|ht
  ·exact h
  ·have:=h2.1 t ht;show e<t.1;simp only at this;omega
 |case5 e a p e' b q h h2 ih=>
  intro hp hq
  unfold mrg
  rw [if_neg h,if_pos h2]
  have h3:=List.pairwise_cons.1 hp
  have h4:=List.pairwise_cons.1 hq
  refine List.pairwise_cons.2 ⟨yhz f e' _ q (fun t ht=>?_) h4.1,ih hp h4.2⟩
  rcases List.mem_cons.1 ht with rfl|ht
  ·exact h2
  ·have:=h3.1 t ht;show e'<t.1;simp only at this;omega
 |case6 e a p e' b q h h2 ih=>
  intro hp hq
  unfold mrg
  rw [if_neg h,if_neg h2]
  have h3:=List.pairwise_cons.1 hp
  have h4:=List.pairwise_cons.1 hq
  refine List.pairwise_cons.2 ⟨yhz f e p q h3.1 (fun t ht=>?_),ih h3.2 h4.2⟩
  have:=h4.1 t ht;show e<t.1;simp only at this;omega
theorem y49 (f:Int->Int->Int) (h0:f 0 0=0): ∀p q:List (Int×Int),p.Pairwise (fun a b=>a.1<b.1)->q.Pairwise (fun a b=>a.1<b.1)-> ∀x,cfL (mrg f p q) x=f (cfL p x) (cfL q x):=by
 intro p q
 induction p,q using mrg.induct with
 |case1=>intro _ _ x;simp [mrg,cfL,h0]
 |case2 e a p ih=>
  intro hp hq x
  have h1:=List.pairwise_cons.1 hp
  conv=>lhs;unfold mrg
  simp only [cfL]
  rw [ih h1.2 hq]
  by_cases hx:e=x
  ·have n1:cfL p x=0:=yck fun t ht=>by have:=h1.1 t ht;simp only at this;omega
   rw [if_pos hx,if_pos hx,n1];simp [cfL,h0]
  ·rw [if_neg hx,if_neg hx];simp [cfL]
 |case3 e b q ih=>
  intro hp hq x
  have h1:=List.pairwise_cons.1 hq
  conv=>lhs;unfold mrg
  simp only [cfL]
  rw [ih hp h1.2]
  by_cases hx:e=x
  ·have n1:cfL q x=0:=yck fun t ht=>by have:=h1.1 t ht;simp only at this;omega
   rw [if_pos hx,if_pos hx,n1];simp [cfL,h0]
  ·rw [if_neg hx,if_neg hx];simp [cfL]
 |case4 e a p e' b q h ih=>
  intro hp hq x
  have h1:=List.pairwise_cons.1 hp
  have h2:=List.pairwise_cons.1 hq
  conv=>lhs;unfold mrg
  rw [if_pos h]
  simp only [cfL]
  rw [ih h1.2 hq]
  simp only [cfL]
  by_cases hx:e=x
  ·have n1:cfL p x=0:=yck fun t ht=>by have:=h1.1 t ht;simp only at this;omega
   have n2:cfL q x=0:=yck fun t ht=>by have:=h2.1 t ht;simp only at this;omega
   rw [if_pos hx,if_pos hx,n1,n2,if_neg (by omega)];simp [h0]
  ·rw [if_neg hx,if_neg hx];simp
 |case5 e a p e' b q h h2 ih=>
  intro hp hq x
  have h3:=List.pairwise_cons.1 hp
  have h4:=List.pairwise_cons.1 hq
  conv=>lhs;unfold mrg
  rw [if_neg h,if_pos h2]
  simp only [cfL]
  rw [ih hp h4.2]
  simp only [cfL]
  by_cases hx:e'=x
  ·have n1:cfL p x=0:=yck fun t ht=>by have:=h3.1 t ht;simp only at this;omega
   have n2:cfL q x=0:=yck fun t ht=>by have:=h4.1 t ht;simp only at this;omega
   rw [if_pos hx,if_pos hx,n1,n2,if_neg (by omega)];simp [h0]
  ·rw [if_neg hx,if_neg hx];simp
 |case6 e a p e' b q h h2 ih=>
  intro hp hq x
  have h3:=List.pairwise_cons.1 hp
  have h4:=List.pairwise_cons.1 hq
  conv=>lhs;unfold mrg
  rw [if_neg h,if_neg h2]
  simp only [cfL]
  rw [ih h3.2 h4.2]
  have ee:e'=e:=by omega
  by_cases hx:e=x
  ·have n1:cfL p x=0:=yck fun t ht=>by have:=h3.1 t ht;simp only at this;omega
   have n2:cfL q x=0:=yck fun t ht=>by have:=h4.1 t ht;simp only at this;omega
   rw [if_pos hx,if_pos hx,n1,n2,if_pos (by omega)];simp [h0]
  ·rw [if_neg hx,if_neg hx,if_neg (by omega)];simp
theorem y66 {l:List (Int×Int)} (h:l.Pairwise fun a b=>a.1<b.1):AscN (nz l):=by
 refine ⟨List.Pairwise.filter _ h,fun t ht=>?_⟩
 have:=(List.mem_filter.1 ht).2
 simpa using this
theorem yox (l:List Int) (i j:Nat) (v:Int) (hi:i<l.length):(l.set i v).getD j 0=if i=j then v else l.getD j 0:=by
 by_cases h:i=j
 ·subst h;simp [hi]
 ·rw [if_neg h];simp [List.getD_eq_getElem?_getD,List.getElem?_set_ne h]
theorem yny {p:List (Int×Int)} {i:Nat} (hi:i<p.length):p.getD i (0,0)∈p:=by
 simp [List.getD_eq_getElem?_getD,List.getElem?_eq_getElem hi]
end Go.Proofs.YtjpnnnognoaaiaaDoor
