/- Laurent polynomials as functions of the exponent, plain. -/
import Derived.Test.YtjpbeacamoijhaaGreatDoorZb
import Derived.Test.YtjpbeacamoijhaaGreatDoorZa
set_option linter.unusedSimpArgs false
set_option linter.unusedVariables false
namespace Go.Proofs.YtjpbeacamoijhaaGreatDoor
def cfL:List (Int×Int)->Int->Int
 |[],_=>0
 |t::p,e=>(if t.1=e then t.2 else 0)+cfL p e
structure gM (p:List (Int×Int)):Prop where
 asc:p.Pairwise fun a b=>a.1<b.1
 nz: ∀t∈p,t.2≠0
theorem It (p q:List (Int×Int)) (e:Int):cfL (p++q) e=cfL p e+cfL q e:=by
 induction p with
 |nil=>simp [cfL]
 |cons t p ih=>simp only [List.cons_append,cfL,ih];omega
theorem Se {p:List (Int×Int)} {e:Int} (h: ∀t∈p,t.1≠e):cfL p e=0:=by
 induction p with
 |nil=>rfl
 |cons t p ih=>
  simp only [cfL];rw [if_neg (h t (List.mem_cons_self ..)),ih fun u hu=>h u (List.mem_cons_of_mem _ hu)];rfl
theorem gM.tail {t:Int×Int} {p:List (Int×Int)} (h:gM (t::p)):gM p:=⟨(List.pairwise_cons.1 h.asc).2,fun u hu=>h.nz u (List.mem_cons_of_mem _ hu)⟩
theorem gM.head {t:Int×Int} {p:List (Int×Int)} (h:gM (t::p)): ∀u∈p,t.1<u.1:=(List.pairwise_cons.1 h.asc).1
theorem gM.nil:gM []:=⟨.nil,fun _ h=>by cases h⟩
theorem Er {p:List (Int×Int)} (h:gM p) {t:Int×Int} (ht:t∈p):cfL p t.1=t.2:=by
 induction p with
 |nil=>cases ht
 |cons u p ih=>
  simp only [cfL];rcases List.mem_cons.1 ht with rfl|ht
  ·rw [if_pos rfl,Se fun v hv=>by have:=h.head v hv;omega];omega
  ·rw [if_neg (by have:=h.head t ht;omega),ih h.tail ht];omega
theorem Vh {p:List (Int×Int)} {e:Int} (h:cfL p e≠0): ∃t∈p,t.1=e:=by
 induction p with
 |nil=>exact absurd rfl h
 |cons t p ih=>
  by_cases ht:t.1=e
  ·exact ⟨t,List.mem_cons_self ..,ht⟩
  ·simp only [cfL,if_neg ht,Int.zero_add] at h;obtain ⟨u,hu,e2⟩:=ih h;exact ⟨u,List.mem_cons_of_mem _ hu,e2⟩
theorem gM.ext: ∀{p q:List (Int×Int)},gM p->gM q->(∀e,cfL p e=cfL q e)->p=q
 |[],[],_,_,_=>rfl
 |[],t::q,_,hq,h=>by
  have:=h t.1
  rw [Er hq (List.mem_cons_self ..)] at this;exact absurd this.symm (hq.nz t (List.mem_cons_self ..))
 |t::p,[],hp,_,h=>by
  have:=h t.1
  rw [Er hp (List.mem_cons_self ..)] at this;exact absurd this (hp.nz t (List.mem_cons_self ..))
 |t::p,u::q,hp,hq,h=>by
  have m1:cfL (t::p) t.1=t.2:=Er hp (List.mem_cons_self ..);have m2:cfL (u::q) u.1=u.2:=Er hq (List.mem_cons_self ..);have n1:=hp.nz t (List.mem_cons_self ..);have n2:=hq.nz u (List.mem_cons_self ..);have e1:t.1=u.1:=by
   obtain ⟨v,hv,ev⟩:=Vh (p:=u::q) (e:=t.1) (by rw [←h,m1];exact n1);obtain ⟨w,hw,ew⟩:=Vh (p:=t::p) (e:=u.1) (by rw [h,m2];exact n2);rcases List.mem_cons.1 hv with rfl|hv
   ·exact ev.symm
   ·rcases List.mem_cons.1 hw with rfl|hw
    ·exact ew
    ·have:=hq.head v hv
     have:=hp.head w hw
     omega
  have e2:t.2=u.2:=by rw [←m1,←m2,h,e1]
  have et:t=u:=Prod.ext e1 e2;subst et;rw [gM.ext hp.tail hq.tail fun e=>by have:=h e;simp only [cfL] at this;omega]
theorem Rk: ∀(e:Int) (l:List Int),∀t∈tmI e l,e<=t.1/\t.1<e+l.length
 |_,[],t,ht=>by cases ht
 |e,c::r,t,ht=>by
  simp only [tmI] at ht;have key:t∈tmI (e+1) r->e<=t.1/\t.1<e+(c::r).length:=fun h=>by
   have:=Rk (e+1) r t h
   simp only [List.length_cons];omega
  split at ht
  ·exact key ht
  ·rcases List.mem_cons.1 ht with rfl|ht
   ·simp only [List.length_cons];omega
   ·exact key ht
theorem Rj: ∀(e:Int) (l:List Int),gM (tmI e l)
 |_,[]=> .nil
 |e,c::r=>by
  have ih:=Rj (e+1) r;simp only [tmI]
  split
  ·exact ih
  ·rename_i h
   refine ⟨List.pairwise_cons.2 ⟨fun u hu=>by have:=Rk (e+1) r u hu;show e<u.1;omega,ih.asc⟩,fun u hu=>?_⟩;rcases List.mem_cons.1 hu with rfl|hu
   ·exact h
   ·exact ih.nz u hu
theorem Ri: ∀(e:Int) (l:List Int) (x:Int),cfL (tmI e l) x=if e<=x then l.getD (x-e).toNat 0 else 0
 |e,[],x=>by simp [tmI,cfL]
 |e,c::r,x=>by
  have ih:=Ri (e+1) r x;by_cases hx:e=x
  ·subst hx;rw [if_neg (by omega)] at ih;simp only [tmI]
   split
   ·rename_i h;rw [ih,if_pos (Int.le_refl _)];simp [h]
   ·simp only [cfL,ih];simp
  ·have k:cfL (tmI e (c::r)) x=cfL (tmI (e+1) r) x:=by
    simp only [tmI]
    split
    ·rfl
    ·simp only [cfL];rw [if_neg hx];omega
   rw [k,ih];by_cases hl:e+1<=x
   ·rw [if_pos hl,if_pos (by omega)];obtain ⟨d,hd⟩: ∃d:Nat,x=e+1+d:=⟨(x-e-1).toNat,by omega⟩;rw [hd,show (e+1+(d:Int)-e).toNat=d+1 by omega,show (e+1+(d:Int)-(e+1)).toNat=d by omega,List.getD_cons_succ]
   ·rw [if_neg hl,if_neg (by omega)]
theorem Y4 (l:List (Int×Int)) (e:Int):cfL (nz l) e=cfL l e:=by
 induction l with
 |nil=>rfl
 |cons t l ih=>
  unfold nz at ih⊢;by_cases h:t.2=0
  ·rw [List.filter_cons_of_neg (by simp [h]),ih];simp only [cfL,h];split<;>omega
  ·rw [List.filter_cons_of_pos (by simp [h])];simp only [cfL,ih]
theorem Y3 {l:List (Int×Int)} (h:l.Pairwise fun a b=>a.1<b.1):gM (nz l):=by
 refine ⟨List.Pairwise.filter _ h,fun t ht=>?_⟩
 have:=(List.mem_filter.1 ht).2
 simpa using this
def cvL (p:List (Int×Int)) (g:Int->Int) (e:Int):Int:=match p with
 |[]=>0
 |t::p=>t.2*g (e-t.1)+cvL p g e
theorem Is {p:List (Int×Int)} {i:Nat} (hi:i<p.length):p.getD i (0,0)∈p:=by
 simp [List.getD_eq_getElem?_getD,List.getElem?_eq_getElem hi]
def bB (a z:Int):Int:=a*16777216+z
def az (e:Int):Int:=(e+8388608)% 16777216-8388608
def aN (e:Int):Int:=(e-az e)/16777216
theorem pL {a z:Int} (h: -8388608<=z/\z<8388608):az (bB a z)=z:=by unfold az bB;omega
theorem tG {a z:Int} (h: -8388608<=z/\z<8388608):aN (bB a z)=a:=by unfold aN;rw [pL h];unfold bB;omega
theorem qI (e:Int):bB (aN e) (az e)=e:=by unfold aN bB az;omega
theorem A9 (e:Int): -8388608<=az e/\az e<8388608:=by unfold az;omega
theorem Zy {a z a' z':Int} (h: -8388608<=z/\z<8388608) (h': -8388608<=z'/\z'<8388608):bB a z<bB a' z'↔a<a'\/a=a'/\z<z':=by unfold bB;omega
theorem Uf (e e':Int):e<e'↔aN e<aN e'\/aN e=aN e'/\az e<az e':=by
 have:=Zy (A9 e) (A9 e') (a:=aN e) (a':=aN e')
 rwa [qI,qI] at this
theorem Lh (a z a' z':Int):bB a z+bB a' z'=bB (a+a') (z+z'):=by unfold bB;omega
def tj (e:Int):Prop:=(-1048576<=aN e/\aN e<=1048576)/\ -1048576<=az e/\az e<=1048576
theorem QE {e e':Int} (h:tj e) (h':tj e'):aN (e+e')=aN e+aN e'/\az (e+e')=az e+az e':=by
 have h1:=Lh (aN e) (az e) (aN e') (az e');rw [qI,qI] at h1;unfold tj at h h';rw [h1,tG (by omega),pL (by omega)];exact ⟨rfl,rfl⟩
open Go Go.RowKit
set_option maxRecDepth 100000
set_option maxHeartbeats 8000000
theorem vX (v l:Int) (h0:0<=l) (h1:l<=4611686018427387904):Fn Tryz.prog 78 [I v,I l] (.bool (decide (-l<=v)&&decide (v<=l))):=by
 obtain ⟨b1,e1⟩: ∃b,decide (-l<=v)=b:=⟨_,rfl⟩;obtain ⟨b2,e2⟩: ∃b,decide (v<=l)=b:=⟨_,rfl⟩;rw [e1,e2];have e3:decide (0-l<=v)=b1:=by rw [←e1];exact decide_eq_decide.2 (by omega)
 refine Fn.intro [.tmp 4] Tryz.func78 rfl rfl (by decide) (by simp [Tryz.ntmps78]) ?_;rw [Tryz.ntmps78];cases b1<;>cases b2
 all_goals (repeat' (first|omega|(try apply ah);simp only [go_sem,sevalprocAttr,e3,e2]|apply ag<;>(intro h_;(try simp only [h_]);revert h_)|apply And.intro|with_reducible intro h_|trivial|simp only [go_sem,ai];omega))
def mM (x y:Int):Int:=if x<y then-1 else if y<x then 1 else 0
theorem Vg (v:Int) (hv:InI v):Eg v 33554431=v % 33554432:=by
 unfold Eg;have h1:(BitVec.ofInt 64 v&&&BitVec.ofInt 64 33554431).toNat=(v % 33554432).toNat:=by
  rw [BitVec.toNat_and];have e2:(BitVec.ofInt 64 33554431).toNat=2^25-1:=by decide
  have e1:(BitVec.ofInt 64 v).toNat=(v % 18446744073709551616).toNat:=by rw [BitVec.toNat_ofInt];rfl
  rw [e2,Nat.and_two_pow_sub_one_eq_mod,e1];omega
 rw [h1,Sr (by unfold InI;omega)];omega
theorem Dq (h l v:Int) (hh: -4611686018427387904<=h/\h<=4611686018427387904) (hl:0<=l/\l<=4611686018427387904) (hv:InI v):Fn Tryz.prog 71 [.agg [I h,I l],I v] (.agg [I (h+v/33554432),I (l+v % 33554432)]):=by
 have vH:=Vg v hv;unfold InI at hv;refine Fn.intro [.cell 4 107] Tryz.func71 rfl rfl (by decide) (by simp [Tryz.ntmps71]) ?_;rw [Tryz.ntmps71]
 repeat' (first|omega|(try apply ah);simp only [go_sem,sevalprocAttr,vH]|apply ag<;>(intro h_;(try simp only [h_]);revert h_)|apply And.intro|with_reducible intro h_|trivial|simp only [go_sem,ai];omega)
def Vf:List (List Nat):=[[9,10,11,13,14,15],[9,10,11,13,14,15],[7,8,13,14,15],[7,8,13,14,15],[7,8,13,14,15],[13,14,15],[7,8,9,10,11,12,4],[7,8,9,10,11,12,4],[7,8,9,10,11,12,4],[13,14,15],[]]
def Ve:List (List Nat):=[[],[],[0,1],[0,1],[0,1],[],[0,1,2,3,4,5],[0,1,2,3,4,5],[0,1,2,3,4,5],[6,7,8],[]]
def bvC:List (Int×Int)->List AV
 |[]=>[]
 |t::r=>I (aN t.1)::I (az t.1)::I t.2::bvC r
theorem pg: ∀p:List (Int×Int),(bvC p).length=3*p.length
 |[]=>rfl
 |t::r=>by simp only [bvC,List.length_cons,pg r];omega
theorem Lg: ∀p q:List (Int×Int),bvC (p++q)=bvC p++bvC q
 |[],_=>rfl
 |t::r,q=>by simp only [List.cons_append,bvC,Lg r q]
theorem yO: ∀(p:List (Int×Int)) (i:Nat),i<p.length->(bvC p).getD (i*3) .any=I (aN (p.getD i (0,0)).1)/\(bvC p).getD (i*3+1) .any=I (az (p.getD i (0,0)).1)/\(bvC p).getD (i*3+2) .any=I (p.getD i (0,0)).2
 |[],i,h=>by simp at h
 |t::r,0,_=>⟨rfl,rfl,rfl⟩
 |t::r,i+1,h=>by
  have ih:=yO r i (by simpa using h);simp only [bvC];rw [show (i+1)*3=i*3+1+1+1 by omega,show i*3+1+1+1+1=i*3+1+1+1+1 from rfl,show i*3+1+1+1+2=i*3+2+1+1+1 by omega];simp only [List.getD_cons_succ];exact ih
theorem dq (H:Hp): ∀p:List (Int×Int),(bvC p).all (s3 H)=true
 |[]=>rfl
 |t::r=>by simp only [bvC,List.all_cons,dq H r,Bool.and_true];rfl
abbrev mu (p:List (Int×Int)):AV:= .ro 3 p.length (.lst (bvC p))
abbrev jo (b:Bool) (p:List (Int×Int)):AV:= .agg [.bool b,mu p]
theorem YI (h l:Int) (hh: -4611686018427387904<=h/\h<=4611686018427387904) (hl:0<=l/\l<=4611686018427387904) (hv: -1125899906842624<=h*33554432+l/\h*33554432+l<=1125899906842624):Fn Tryz.prog 111 [.agg [I h,I l]] (.tup [I (h*33554432+l), .bool true]):=by
 have DL:=Vg l (by unfold InI;omega);obtain ⟨g,hg⟩: ∃g,g=h+l/33554432:=⟨_,rfl⟩;obtain ⟨r,hr⟩: ∃r,r=l % 33554432:=⟨_,rfl⟩;rw [←hr] at DL;have hS:g*33554432+r=h*33554432+l:=by omega
 have hgb: -67108864<=g/\g<=67108864:=by omega
 have h1:=vX g 67108864 (by decide) (by decide);have h2:=vX (h*33554432+l) 1125899906842624 (by decide) (by decide);rw [decide_eq_true (by omega),decide_eq_true (by omega),Bool.and_self] at h1 h2;refine Fn.aH [.tmp 2, .tmp 3] Tryz.func111 rfl rfl (by decide) (by simp [Tryz.ntmps111]) ?_;rw [Tryz.ntmps111];have eg:h+l/2^25=g:=by rw [hg];rfl
 have eg2:h+l/33554432=g:=hg.symm;have eS:g*2^25+r=h*33554432+l:=by rw [←hS];rfl
 repeat' (first|omega|(first|apply ah|(refine bd.intro (id:=1) Vf Ve (by decide+kernel) mixed ?_)|skip);simp only [go_sem,sevalprocAttr,DL,eg,eg2,↓reduceIte,reduceCtorEq,Vf,Ve]|apply ag<;>(intro h_;(try simp only [h_]);revert h_)|apply And.intro|with_reducible intro h_|trivial|simp only [go_sem,ai];omega)
 refine ⟨aO.fn rfl h1 ?_⟩
 repeat' (first|omega|(try apply ah);simp only [go_sem,sevalprocAttr,eS,hS]|apply ag<;>(intro h_;(try simp only [h_]);revert h_)|apply And.intro|with_reducible intro h_|trivial|simp only [go_sem,ai];omega)
 refine ⟨aO.fn rfl h2 ?_⟩
 repeat' (first|omega|(try apply ah);simp only [go_sem,sevalprocAttr]|apply ag<;>(intro h_;(try simp only [h_]);revert h_)|apply And.intro|with_reducible intro h_|trivial|simp only [go_sem,ai];omega)
 all_goals exact ca.refl _
theorem LM (c a z:Int) (hc:c≠0) (qA: -1125899906842624<=c/\c<=1125899906842624) (ha: -1048576<=a/\a<=1048576) (hz: -1048576<=z/\z<=1048576):Fn Tryz.prog 29 [I c,I a,I z] (jo false [(bB a z,c)]):=by
 have eA:aN (bB a z)=a:=tG (by omega);have eZ:az (bB a z)=z:=pL (by omega);have h1:=vX c 1125899906842624 (by decide) (by decide);have h2:=vX a 1048576 (by decide) (by decide);have h3:=vX z 1048576 (by decide) (by decide);rw [decide_eq_true (by omega),decide_eq_true (by omega),Bool.and_self] at h1 h2 h3;have bc:(c==0)=false:=by rw [beq_eq_false_iff_ne];exact hc
 refine Fn.aH [.cell 6 29] Tryz.func29 rfl rfl (by decide) (by simp [Tryz.ntmps29]) ?_;rw [Tryz.ntmps29]
 repeat' (first|omega|(try apply ah);simp only [go_sem,sevalprocAttr,bc]|(refine ⟨aO.fn (r:=?_) rfl ?_ ?_⟩;rotate_left;assumption)|(refine ⟨c8.fn (r:=?_) rfl ?_ ?_⟩;rotate_left;assumption)|apply ag<;>(intro h_;(try simp only [h_]);revert h_)|apply And.intro|with_reducible intro h_|trivial|simp only [go_sem,ai];omega)
 all_goals exact ca.of (by show _=AV.agg [.bool false, .ro 3 1 (.lst [I (aN (bB a z)),I (az (bB a z)),I c])];rw [eA,eZ])
def j7 (d:Int) (p:List (Int×Int)):List (Int×Int):=p.map fun t=>(t.1+d,t.2)
theorem y4e (d:Int) (p q:List (Int×Int)):j7 d (p++q)=j7 d p++j7 d q:=by simp [j7]
theorem Sd (d:Int) (p:List (Int×Int)):(j7 d p).length=p.length:=by simp [j7]
theorem Hb {e a z:Int} (h: -4194304<=az e+z/\az e+z<=4194304):aN (e+bB a z)=aN e+a/\az (e+bB a z)=az e+z:=by
 have h1:=Lh (aN e) (az e) a z;rw [qI] at h1;rw [h1,tG (by omega),pL (by omega)];exact ⟨rfl,rfl⟩
theorem Lf {f:AV->AV} (hf: ∀x:Int,f (I x)=I x): ∀p:List (Int×Int),(bvC p).map f=bvC p
 |[]=>rfl
 |t::r=>by simp only [bvC,List.map_cons,hf,Lf hf r]
theorem QD (id:Nat) (p:List (Int×Int)):(bvC p).map (cutV id)=bvC p:=Lf (fun _=>rfl) p
theorem Sc (H:Hp) (n:Nat) (p:List (Int×Int)):(bvC p).map (snap H (n+1))=bvC p:=Lf (fun _=>rfl) p
theorem QC {x:AV}: ∀{p:List (Int×Int)},x∈bvC p-> ∃n,x=I n
 |[],h=>by cases h
 |t::r,h=>by
  simp only [bvC,List.mem_cons] at h;rcases h with h|h|h|h
  ·exact ⟨_,h⟩
  ·exact ⟨_,h⟩
  ·exact ⟨_,h⟩
  ·exact QC h
theorem ED (H:Hp) (n:Nat) {p:List (Int×Int)} {x:AV} (h:x∈bvC p):dZ H (n+1) x:=by
 obtain ⟨m,rfl⟩:=QC h;trivial
theorem I8 (p:List (Int×Int)) (a z:Int) (hp:p.length<=100000) (ha: -2097152<=a/\a<=2097152) (hz: -2097152<=z/\z<=2097152) (hb: ∀t∈p,(-1048576<=aN t.1+a/\aN t.1+a<=1048576)/\ -1048576<=az t.1+z/\az t.1+z<=1048576):
  Fn Tryz.prog 42 [jo false p,I a,I z] (jo false (j7 (bB a z) p)):=by
 have hc:=pg p;by_cases h0:p.length=0
 ·obtain rfl:p=[]:=List.eq_nil_of_length_eq_zero h0;refine Fn.aH [.cell 6 29] Tryz.func42 rfl rfl (by decide) (by simp [Tryz.ntmps42]) ?_;rw [Tryz.ntmps42]
  repeat' (first|omega|(try apply ah);simp only [go_sem,sevalprocAttr]|apply ag<;>(intro h_;(try simp only [h_]);revert h_)|apply And.intro|with_reducible intro h_|trivial|simp only [go_sem,ai];omega)
  all_goals exact ca.refl _
 have b0:((p.length:Int)==0)=false:=by rw [beq_eq_false_iff_ne];omega
 have h1:=vX a 2097152 (by decide) (by decide);have h2:=vX z 2097152 (by decide) (by decide);rw [decide_eq_true (by omega),decide_eq_true (by omega),Bool.and_self] at h1 h2;refine Fn.aH [.cell 6 29] Tryz.func42 rfl rfl (by decide) (by simp [Tryz.ntmps42]) ?_;rw [Tryz.ntmps42]
 repeat' (first|omega|(try apply ah);simp only [go_sem,sevalprocAttr,b0,hc]|(refine ⟨aO.fn (r:=?_) rfl ?_ ?_⟩;rotate_left;assumption)|(refine ⟨c8.fn (r:=?_) rfl ?_ ?_⟩;rotate_left;assumption)|apply ag<;>(intro h_;(try simp only [h_]);revert h_)|apply And.intro|with_reducible intro h_|trivial|simp only [go_sem,ai];omega)
 refine dn.intro (fun n fr H=> ∃k:Nat,k<=p.length/\n=p.length-k/\fr=[(36,I k),(35,I p.length),(34,mu p),(7, .ptr 3 0),(6, .ptr 1 0),(1,I a),(2,I z)]/\
  H=[(3, .cells 29 (.lst [.bool false, .sl 3 2 0 k])),(2, .cells 74 (.lst (bvC (j7 (bB a z) (p.take k))))),(1, .cells 29 (.lst [.bool false, .nils]))]) ?_ ?_
 ·refine ⟨_,_,_,Wk.sub ?_ ?_,0,by omega,rfl,rfl,rfl⟩
  ·simp only [go_sem,sevalprocAttr,dq]
  ·simp only [go_sem,sevalprocAttr,dq,List.take_zero,j7,List.map_nil,bvC]
   all_goals rfl
 rintro n fr H ⟨k,hk,rfl,rfl,rfl⟩;have hl:(bvC (j7 (bB a z) (p.take k))).length=3*k:=by rw [pg,Sd,List.length_take];omega
 by_cases cT:k<p.length
 ·have bk:decide ((k:Int)<p.length)=true:=by simp;omega
  obtain ⟨g0,g1,g2⟩:=yO p k cT;have ht:=hb (p.getD k (0,0)) (by rw [List.getD_eq_getElem?_getD,List.getElem?_eq_getElem cT];exact List.getElem_mem _);have et:p.take (k+1)=p.take k++[p.getD k (0,0)]:=by rw [List.take_succ_eq_append_getElem cT];simp [cT]
  have es:bvC (j7 (bB a z) (p.take (k+1)))=bvC (j7 (bB a z) (p.take k))++[I (aN (p.getD k (0,0)).1+a),I (az (p.getD k (0,0)).1+z),I (p.getD k (0,0)).2]:=by
   rw [et,y4e,Lg];congr 1;have hs:=Hb (e:=(p.getD k (0,0)).1) (a:=a) (z:=z) (by omega);show [I (aN ((p.getD k (0,0)).1+bB a z)),I (az ((p.getD k (0,0)).1+bB a z)),I (p.getD k (0,0)).2]=_;rw [hs.1,hs.2]
  generalize aN (p.getD k (0,0)).1=x at*;generalize az (p.getD k (0,0)).1=y at*;generalize (p.getD k (0,0)).2=v at*;have w1:=vX (x+a) 1048576 (by decide) (by decide);have w2:=vX (y+z) 1048576 (by decide) (by decide);rw [decide_eq_true (by omega),decide_eq_true (by omega),Bool.and_self] at w1 w2;clear h1 h2
  repeat' (first|omega|(try apply ah);simp only [go_sem,sevalprocAttr,bk,hc,g0,g1,g2,hl]|(refine ⟨aO.fn (r:=?_) rfl ?_ ?_⟩;rotate_left;assumption)|(refine ⟨c8.fn (r:=?_) rfl ?_ ?_⟩;rotate_left;assumption)|apply ag<;>(intro h_;(try simp only [h_]);revert h_)|apply And.intro|with_reducible intro h_|trivial|simp only [go_sem,ai];omega)
  refine ⟨_,_,_,?_,Wk.sub ?_ ?_,k+1,by omega,rfl,rfl,rfl⟩
  ·omega
  ·simp only [go_sem,sevalprocAttr,dq]
  ·simp only [go_sem,sevalprocAttr,es,QD,dq,List.all_append]
 ·obtain rfl:k=p.length:=by omega
  have bk:decide ((p.length:Int)<p.length)=false:=by simp
  rw [List.take_length] at hl⊢;have jY:=Sd (bB a z) p;clear h1 h2
  repeat' (first|omega|(try apply ah);simp only [go_sem,sevalprocAttr,bk,hl]|apply ag<;>(intro h_;(try simp only [h_]);revert h_)|apply And.intro|with_reducible intro h_|trivial|simp only [go_sem,ai];omega)
  all_goals first
   |exact ED _ _ ‹_›
   |exact ca.of (by rw [Sc,List.take_of_length_le (by omega),←jY])
end Go.Proofs.YtjpbeacamoijhaaGreatDoor
