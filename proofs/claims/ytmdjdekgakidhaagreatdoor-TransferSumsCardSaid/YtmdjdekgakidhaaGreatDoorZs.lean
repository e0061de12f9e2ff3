/- Layer 12: the text of a polynomial, as a contract. -/
import Derived.Test.YtmdjdekgakidhaaGreatDoorTx3
import Derived.Test.YtmdjdekgakidhaaGreatDoorZm
import Derived.Test.YtmdjdekgakidhaaGreatDoorZa
import Derived.Test.YtmdjdekgakidhaaGreatDoorZe
import Derived.Test.YtmdjdekgakidhaaGreatDoorTb1
import Derived.Test.YtmdjdekgakidhaaGreatDoorZr
import Derived.Test.YtmdjdekgakidhaaGreatDoorZk
set_option linter.unusedSimpArgs false
set_option linter.unusedVariables false
namespace Go.Proofs.YtmdjdekgakidhaaGreatDoor
open Go Go.RowKit
set_option maxRecDepth 100000
set_option maxHeartbeats 4000000
def cok (p:List (Int×Int)):Prop:= ∀k,k<p.length-> -4611686018427387904<=(p.getD k (0,0)).1/\(p.getD k (0,0)).1<=4611686018427387904/\ -4611686018427387904<=(p.getD k (0,0)).2/\(p.getD k (0,0)).2<=4611686018427387904
def txtB (name:List UInt8) (p:List (Int×Int)):List UInt8:=if p.length=0 then [48] else txtN name p p.length
theorem y4t (name:ByteArray):Fn Tryz.prog 22 [plA false [], .str name] (.str ⟨#[48]⟩):=by
 refine Fn.intro [.tmp 4] Tryz.func22 rfl rfl (by decide) (by simp [Tryz.ntmps22]) ?_;rw [Tryz.ntmps22]
 repeat' (first|omega|(try apply yaa);simp only [go_sem,sevalprocAttr]|apply yad<;>(intro h_;(try simp only [h_]);revert h_)|apply yac|apply yab|apply gspI|apply And.intro|with_reducible intro h_|trivial|simp only [go_sem,la2];omega)
theorem y4u (p:List (Int×Int)) (name:ByteArray) (hp0:0<p.length) (hr:cok p) (hn:name.size<=1000) (hpl:p.length<=1000000):
  Fn Tryz.prog 22 [plA false p, .str name] (.str ⟨(txtN name.data.toList p p.length).toArray⟩):=by
 refine ⟨⟨_,Tryz.func22,rfl,by decide⟩,fun w Mx vs hMx hl hv=>?_⟩
 match vs,hl with
 |[v0,v1],_=>
  have h0:=hv 0 v0 _ rfl rfl
  have h1:=(hv 1 v1 _ rfl rfl).str_inv
  subst h1
  obtain ⟨us,rfl,hul,hu⟩:=h0.agg_inv
  match us,hul with
  |[u0,u1],_=>
   have k0:=(hu 0 u0 _ rfl rfl).bool_inv
   have k1:=hu 1 u1 _ rfl rfl
   subst k0
   cases k1 with
   |ro _ _ _ ad cap x hlen hcap _ hcell hx=>
    obtain ⟨a,rfl,hb,_,hj⟩:=hcell hp0
    have hcl:(Cs.lst (tmC p)).len=2*p.length:=yb7 p
    refine (y1a p name a cap w hp0 hMx.1 hb (fun k hk=>?_) hr hn hpl).mono ?_
    ·have e0:=hx (k*2) (by omega)
     have e1:=hx (k*2+1) (by omega)
     rw [show (Cs.lst (tmC p)).get (k*2)=(tmC p).getD (k*2) .any from rfl,ycp p k hk] at e0
     rw [show (Cs.lst (tmC p)).get (k*2+1)=(tmC p).getD (k*2+1) .any from rfl,yen p k hk] at e1
     refine ⟨?_,?_⟩
     ·rw [hj _ (by omega),e0.int_inv]
     ·rw [hj _ (by omega),e1.int_inv]
    ·rintro e w' ⟨rfl,hb'⟩
     exact ⟨_,rfl,hb', .str _⟩
theorem y8x (p:List (Int×Int)) (name:ByteArray) (hr:cok p) (hn:name.size<=1000) (hpl:p.length<=1000000):
  Fn Tryz.prog 22 [plA false p, .str name] (.str ⟨(txtB name.data.toList p).toArray⟩):=by
 unfold txtB
 split
 ·obtain rfl:p=[]:=List.eq_nil_of_length_eq_zero (by assumption)
  exact y4t name
 ·exact y4u p name (by omega) hr hn hpl
end Go.Proofs.YtmdjdekgakidhaaGreatDoor
set_option linter.unusedSimpArgs false
set_option linter.unusedVariables false
namespace Go.Proofs.YtmdjdekgakidhaaGreatDoor
open Go Go.RowKit
set_option maxRecDepth 100000
set_option maxHeartbeats 8000000
def ylh:List (List Nat):=[[18,21,22,23,24],[17,21,22,23,24],[21,22,23,24],[21,22,23,24],[17,18,19,20,22],[17,18,19,20,21],[17,18,19,20],[17,18,19,20],[]]
theorem y4v (a b:List Int) (hl:a.length<=1000000):Fn Tryz.prog 32 [roI a,roI b] (.bool (decide (a=b))):=by
 refine Fn.intro [.tmp 4] Tryz.func32 rfl rfl (by decide) (by simp [Tryz.ntmps32]) ?_;rw [Tryz.ntmps32]
 by_cases hab:a.length=b.length
 case neg=>
  have b0:((a.length:Int)!=b.length)=true:=by simp;omega
  have e:decide (a=b)=false:=decide_eq_false fun e=>hab (by rw [e])
  rw [e]
  repeat' (first|omega|(first|apply yaa|(refine yae.intro (id:=6) ylh [[],[0],[],[],[0,1,2,3],[0,1,2,3,4],[0,1,2,3],[0,1,2,3],[]] (by decide+kernel) mixed ?_)|skip);simp only [go_sem,sevalprocAttr,b0,↓reduceIte,reduceCtorEq,ylh]|apply yad<;>(intro h_;(try simp only [h_]);revert h_)|apply yac|apply yab|apply gspI|apply And.intro|with_reducible intro h_|trivial|simp only [go_sem,la2];omega)
 have b0:((a.length:Int)!=b.length)=false:=by simp;omega
 repeat' (first|omega|(first|apply yaa|(refine yae.intro (id:=6) ylh [[],[0],[],[],[0,1,2,3],[0,1,2,3,4],[0,1,2,3],[0,1,2,3],[]] (by decide+kernel) mixed ?_)|skip);simp only [go_sem,sevalprocAttr,b0,↓reduceIte,reduceCtorEq,ylh]|apply yad<;>(intro h_;(try simp only [h_]);revert h_)|apply yac|apply yab|apply gspI|apply And.intro|with_reducible intro h_|trivial|simp only [go_sem,la2];omega)
 refine yai.intro (fun n fr H=> ∃i:Nat,i<=a.length/\n=a.length-i/\(∀j,j<i->a.getD j 0=b.getD j 0)/\fr=[(5,I i),(1,roI b),(0,roI a)]/\H=[]) ?_ ?_
 ·refine ⟨_,_,_,?_,0,by omega,rfl,fun j hj=>by omega,rfl,rfl⟩
  refine Wk.sub ?_ ?_<;>simp only [go_sem,sevalprocAttr]
 rintro n fr H ⟨i,hi,rfl,hj,rfl,rfl⟩
 repeat' (first|omega|(first|apply yaa|(refine yae.intro (id:=6) ylh [[],[0],[],[],[0,1,2,3],[0,1,2,3,4],[0,1,2,3],[0,1,2,3],[]] (by decide+kernel) mixed ?_)|skip);simp only [go_sem,sevalprocAttr,↓reduceIte,reduceCtorEq,ylh]|apply yad<;>(intro h_;(try simp only [h_]);revert h_)|apply yac|apply yab|apply gspI|apply And.intro|with_reducible intro h_|trivial|simp only [go_sem,la2];omega)
 ·exact (decide_eq_false fun e=>h_ (by rw [e])).symm
 ·have h2:=h_
  refine ⟨_,_,_,?_,?_,⟨i+1,by omega,rfl,fun j hj'=>?_,rfl,rfl⟩⟩
  ·omega
  ·refine Wk.sub ?_ ?_<;>simp only [go_sem,sevalprocAttr]
  ·by_cases e:j=i
   ·subst e;exact h2
   ·exact hj j (by omega)
 ·obtain rfl:i=a.length:=by omega
  refine (decide_eq_true (List.ext_getElem hab fun j h1 h2=>?_)).symm
  have:=hj j h1
  simpa [h1,h2] using this
end Go.Proofs.YtmdjdekgakidhaaGreatDoor
namespace Go.Proofs.YtmdjdekgakidhaaGreatDoor
open Go Go.RowKit
set_option maxRecDepth 100000
set_option maxHeartbeats 8000000
set_option linter.unusedVariables false
set_option linter.unusedSimpArgs false
theorem yus:Fn Tryz.prog 29 [] (dgA [1,1,1] [9,4,7,10,1,8,11,2,5,0,3,6] 0):=by
 refine Fn.introL [.cell 0 24] Tryz.func29 rfl rfl (by decide) (by simp [Tryz.ntmps29]) ?_;rw [Tryz.ntmps29]
 repeat' (first|omega|(try apply yaa);simp only [go_sem,sevalprocAttr]|apply yad<;>(intro h_;(try simp only [h_]);revert h_)|apply yac|apply yab|apply gspI|apply And.intro|with_reducible intro h_|trivial|simp only [go_sem,la2];omega)
 all_goals exact LeA.refl _
theorem yjm:yah [1,1,1] [9,4,7,10,1,8,11,2,5,0,3,6] 0=true:=by decide+kernel
theorem yaas:Fn Tryz.prog 28 [dgA [1,1,1] [9,4,7,10,1,8,11,2,5,0,3,6] 0] (.ro 1 3 (.ints [0,1,2])):=by
 have h:=ytj [1,1,1] [9,4,7,10,1,8,11,2,5,0,3,6] 0 (by decide)
 rw [if_pos yjm,show orN [9,4,7,10,1,8,11,2,5,0,3,6] ([1,1,1]:List Int).length ([1,1,1]:List Int).length=[0,1,2] by decide+kernel] at h
 exact h
theorem yaat:Fn Tryz.prog 30 [dgA [1,1,1] [9,4,7,10,1,8,11,2,5,0,3,6] 0, .ro 1 3 (.ints [0,1,2])] (.tup [I 4,I 0]):=by
 have h:=yti [1,1,1] [9,4,7,10,1,8,11,2,5,0,3,6] 0 [0,1,2] (by decide) (by decide)
 unfold widA at h
 rw [if_pos yjm,if_pos (by decide+kernel),show wdN [9,4,7,10,1,8,11,2,5,0,3,6] [0,1,2] ([0,1,2]:List Int).length=4 by decide+kernel] at h
 exact h
theorem tr_br:Fn Tryz.prog 31 [dgA [1,1,1] [9,4,7,10,1,8,11,2,5,0,3,6] 0, .ro 1 3 (.ints [0,1,2])] (.tup [plA false [(-7,1),(-3,-1),(5,-1)],I 0]):=by
 have h:=ytl [1,1,1] [9,4,7,10,1,8,11,2,5,0,3,6] 0 [0,1,2] (by decide) (by decide) yjm (by decide+kernel) (by decide)
 rw [yaam (s:=[1,1,1]) (m:=[9,4,7,10,1,8,11,2,5,0,3,6]) (L:=0) yjm (by decide) (by decide) (p:=[(-7,1),(-3,-1),(5,-1)]) ⟨by decide,by decide⟩ 14 (by decide) (by decide) (by decide+kernel)] at h
 exact h
theorem tr_tx:Fn Tryz.prog 22 [plA false [(-7,1),(-3,-1),(5,-1)], .str ⟨#[97]⟩] (.str ⟨#[97,94,45,55,45,97,94,45,51,45,97,94,53]⟩):=by
 have h:=y8x [(-7,1),(-3,-1),(5,-1)] ⟨#[97]⟩ (fun k hk=>by
  match k,hk with
  |0,_=>decide
  |1,_=>decide
  |2,_=>decide) (by decide) (by decide)
 rw [show (⟨#[97]⟩:ByteArray).data.toList=[97] from rfl,show txtB [97] [(-7,1),(-3,-1),(5,-1)]=[97,94,45,55,45,97,94,45,51,45,97,94,53] by decide+kernel] at h
 exact h
theorem yx4:Fn Tryz.prog 5 [] (.bool true):=by
 have hT:=yus
 have hO:=yaas
 have hW:=yaat
 have hB:=tr_br
 have hX:=tr_tx
 have hI:=y4v [0,1,2] [0,1,2] (by decide)
 rw [show decide (([0,1,2]:List Int)=[0,1,2])=true from rfl] at hI
 refine Fn.introL [.tmp 0] Tryz.func5 rfl rfl (by decide) (by simp [Tryz.ntmps5]) ?_;rw [Tryz.ntmps5]
 repeat' (first|omega|(try apply yaa);simp only [go_sem,sevalprocAttr,hT]|(refine ⟨yaf.fn (r:=?_) rfl ?_ ?_⟩;rotate_left;assumption)|(refine ⟨yak.fn (r:=?_) rfl ?_ ?_⟩;rotate_left;assumption)|apply yad<;>(intro h_;(try simp only [h_]);revert h_)|apply yac|apply yab|apply gspI|apply And.intro|with_reducible intro h_|trivial|simp only [go_sem,la2];omega)
 refine ⟨yaf.frz [1] rfl (by simp only [go_sem,sevalprocAttr,Nat.le_refl]) (by simp only [go_sem,sevalprocAttr,Nat.le_refl]) (by simp only [go_sem,sevalprocAttr,Nat.le_refl]) (by simp only [go_sem,sevalprocAttr,Nat.le_refl]) rfl rfl rfl (yaf.fn rfl hI ?_)⟩
 repeat' (first|omega|(try apply yaa);simp only [go_sem,sevalprocAttr,hT]|(refine ⟨yaf.fn (r:=?_) rfl ?_ ?_⟩;rotate_left;assumption)|(refine ⟨yak.fn (r:=?_) rfl ?_ ?_⟩;rotate_left;assumption)|apply yad<;>(intro h_;(try simp only [h_]);revert h_)|apply yac|apply yab|apply gspI|apply And.intro|with_reducible intro h_|trivial|simp only [go_sem,la2];omega)
 all_goals exact LeA.refl _
end Go.Proofs.YtmdjdekgakidhaaGreatDoor
namespace Go.Proofs.YtmdjdekgakidhaaGreatDoor
set_option linter.unusedSimpArgs false
set_option linter.unusedVariables false
def evL:List (Int×Int)->Int
 |[]=>0
 |t::p=>t.2+evL p
def evF (f:Int->Int) (M:Nat):Int:=sm (fun i=>f ((i:Int)-M)) (2*M+1)
theorem ywm (M:Nat): ∀(p:List (Int×Int)),(∀t∈p,-(M:Int)<=t.1/\t.1<=M)->evF (cfL p) M=evL p
 |[],_=>by unfold evF;simp only [cfL,evL];rw [yb1];omega
 |t::p,h=>by
  have ih:=ywm M p fun u hu=>h u (List.mem_cons_of_mem _ hu)
  have ht:=h t (List.mem_cons_self ..)
  unfold evF at ih⊢
  simp only [cfL,evL]
  rw [yco,ih,yka (a:=(t.1+M).toNat) (by omega) fun x hx hne=>if_neg (by omega),if_pos (by omega)]
theorem ypk (M:Nat): ∀(j:Nat) (a:Int),-(M:Int)+2*j<=a->a+2*j<=M->evF (fun e=>dpw j (e-a)) M=(-2)^j
 |0,a,h1,h2=>by
  unfold evF
  simp only [dpw]
  rw [yka (a:=(a+M).toNat) (by omega) fun x hx hne=>if_neg (by omega),if_pos (by omega)];rfl
 |j+1,a,h1,h2=>by
  have e1:=ypk M j (a-2) (by omega) (by omega)
  have e2:=ypk M j (a+2) (by omega) (by omega)
  have:evF (fun e=>dpw (j+1) (e-a)) M=evF (fun e=> -1*dpw j (e-(a-2))+ -1*dpw j (e-(a+2))) M:=by
   unfold evF
   refine yap fun x hx=>?_
   simp only [dpw,dml]
   rw [show (x:Int)-M-a+2=(x:Int)-M-(a-2) by omega,show (x:Int)-M-a-2=(x:Int)-M-(a+2) by omega];omega
  rw [this]
  unfold evF at e1 e2⊢
  rw [yco,yf5,yf5,e1,e2,Int.pow_succ];omega
theorem y8y {K:Nat} {c:Nat->Nat} {w:Nat->Int} (j M:Nat) (h: ∀k,k<K->j<=c k-> -(M:Int)+2*((c k:Int)-j)<=w k/\w k+2*((c k:Int)-j)<=M):evF (hrT K c w j) M=sm (fun k=>if j<=c k then (-2)^(c k-j) else 0) K:=by
 unfold evF hrT
 rw [yo3]
 refine yap fun k hk=>?_
 by_cases hj:j<=c k
 ·have:=h k hk hj
  simp only [if_pos hj]
  exact ypk M (c k-j) (w k) (by omega) (by omega)
 ·simp only [if_neg hj];rw [yb1];omega
def stX (n i k:Nat) (c:Nat):Nat:=if c<i then nb01 (chB k c) else if c<n then 2 else 0
section
variable {m:List Int} {n:Nat} (hp:PmOk m n)
include hp
theorem y5t (hn:0<n) (L:Nat): ∀i,i<=n->sm (fun k=>(-2:Int)^(cir3 m n (stX n i k)+L-1)) (2^i)=(-1)^i*(-2:Int)^(cir3 m n (stX n 0 0)+L-1)
 |0,_=>by simp [sm]
 |i+1,hi=>by
  have ih:=y5t hn L i (by omega)
  rw [Nat.pow_succ,Nat.mul_two,yha,←yco]
  have key:sm (fun k=>(-2:Int)^(cir3 m n (stX n (i+1) k)+L-1)+(-2:Int)^(cir3 m n (stX n (i+1) (2^i+k))+L-1)) (2^i)=sm (fun k=> -1*(-2:Int)^(cir3 m n (stX n i k)+L-1)) (2^i):=by
   refine yap fun k hk=>?_
   obtain ⟨K,t0,ht0,h3⟩:=yn9 hp (stX n i k) (c:=i) (by omega)
   have e0:stX n (i+1) k=fun x=>if x=i then 0 else stX n i k x:=by
    funext x
    unfold stX
    by_cases e:x=i
    ·subst e;rw [if_pos (by omega),if_pos rfl,y0r hk];rfl
    ·rw [if_neg e]
     by_cases h:x<i
     ·rw [if_pos (by omega),if_pos h]
     ·rw [if_neg (by omega),if_neg h]
   have e1:stX n (i+1) (2^i+k)=fun x=>if x=i then 1 else stX n i k x:=by
    funext x
    unfold stX
    by_cases e:x=i
    ·subst e;rw [if_pos (by omega),if_pos rfl,yv2 hk];rfl
    ·rw [if_neg e]
     by_cases h:x<i
     ·rw [if_pos (by omega),if_pos h,yv1 h]
     ·rw [if_neg (by omega),if_neg h]
   have e2:stX n i k=fun x=>if x=i then 2 else stX n i k x:=by
    funext x
    by_cases e:x=i
    ·subst e;rw [if_pos rfl];unfold stX;rw [if_neg (by omega),if_pos (by omega)]
    ·rw [if_neg e]
   have h0:=h3 0 (by omega)
   have h1:=h3 1 (by omega)
   have h2:=h3 2 (by omega)
   rw [←e0] at h0
   rw [←e1] at h1
   rw [←e2] at h2
   have p0:=yoz n (yj8 hp (stX n (i+1) k)) hn
   have p1:=yoz n (yj8 hp (stX n (i+1) (2^i+k))) hn
   have hK:1<=K:=by
    change 1<=cir3 m n _ at p0
    change 1<=cir3 m n _ at p1
    rw [h0] at p0;rw [h1] at p1
    split at p0<;>split at p1<;>omega
   obtain ⟨q,hq⟩: ∃q,K+L-1=q:=⟨_,rfl⟩
   have hq1:K+1+L-1=q+1:=by omega
   rw [h0,h1,h2]
   rcases (show t0=0\/t0=1\/t0=2 by omega) with rfl|rfl|rfl<;>
   simp only [if_true,if_false,Nat.reduceEqDiff,reduceIte,reduceCtorEq]<;>
   simp [hq,hq1,Int.pow_succ]<;>omega
  rw [key,yf5,ih,Int.pow_succ]
  rw [Int.mul_comm ((-1)^i) (-1),Int.mul_assoc]
theorem y4w (k:Nat):cir3 m n (stX n n k)=cirS m n (chB k):=by
 have:stX n n k=fun c=>nb01 (if c<n then chB k c else false):=by
  funext c
  unfold stX
  by_cases h:c<n
  ·rw [if_pos h,if_pos h]
  ·rw [if_neg h,if_neg h,if_neg h];rfl
 rw [this,←yj9 hp]
 unfold cirS
 rw [ydu fun c hc=>if_pos hc]
theorem yaau (hn:0<n) (L:Nat):sm (fun k=>(-2:Int)^(cN m n L k-1)) (2^n)=(-1)^n*(-2:Int)^(cir3 m n (stX n 0 0)+L-1):=by
 have:=y5t hp hn L n (Nat.le_refl _)
 rw [←this]
 exact yap fun k _=>by rw [y4w hp];rfl
end
section
variable {s m:List Int} {L:Int} (hv:yn0 s m L)
include hv
end
end Go.Proofs.YtmdjdekgakidhaaGreatDoor
