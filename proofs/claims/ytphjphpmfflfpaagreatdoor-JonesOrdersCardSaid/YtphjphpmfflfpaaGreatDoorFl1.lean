/- Layer 12: Flip. -/
import Derived.Test.YtphjphpmfflfpaaGreatDoorZi
set_option linter.unusedSimpArgs false
set_option linter.unusedVariables false
namespace Go.Proofs.YtphjphpmfflfpaaGreatDoor
open Go Go.RowKit
set_option maxRecDepth 100000
set_option maxHeartbeats 8000000
def UR:List (List Nat):=[[15,16,17,18,19,20,21,22,23,24,25],[14,16,17,18,19,20,21,22,23,24,25],[14,15,17,18,19,20,21,22,23,24,25,26],[14,15,16,18,19,20,21,22,23,24,25,26],[14,15,16,17,19,22,23,24,25],[14,15,16,17,18,22,23,24,25],[14,15,16,17,22,23,24,25],[14,15,16,17,22,23,24,25],[14,15,16,17,18,19,20,21,23],[14,15,16,17,18,19,20,21,22],[14,15,16,17,18,19,20,21],[14,15,16,17,18,19,20,21],[16,17],[16,17],[],[]]
def UQ:List (List Nat):=[[],[0],[0,1],[0,1,2],[0,1,2,3],[0,1,2,3,4],[0,1,2,3],[0,1,2,3],[0,1,2,3,4,5,6,7],[0,1,2,3,4,5,6,7,8],[0,1,2,3,4,5,6,7],[0,1,2,3,4,5,6,7],[2,3],[2,3],[],[]]
def uQ:List (List Nat):=[[],[],[],[],[],[52,53,54,55,56],[52,53,54,55,56],[52,53,54,55,56],[52,53,54,55,56],[52,53,54,55,56],[47,48,49,50,51],[47,48,49,50,51],[47,48,49,50,51],[47,48,49,50,51],[47,48,49,50,51],[],[]]
def uP:List (List Nat):=[[],[],[],[],[],[],[],[],[],[],[5,6,7,8,9],[5,6,7,8,9],[5,6,7,8,9],[5,6,7,8,9],[5,6,7,8,9],[],[]]
def kj (p:List (Int×Int)):List (Int×Int):=p.map fun t=>(-t.1,t.2)
def qj (p:List (Int×Int)):List (Int×Int):=(kj p).reverse
theorem M5 (p:List (Int×Int)):(kj p).length=p.length:=by simp [kj]
theorem JM: ∀(p:List (Int×Int)) (i:Nat) (e c:Int),((dw p).set (i*2) (I e)).set (i*2+1) (I c)=dw (p.set i (e,c))
 |[],i,e,c=>by simp [dw]
 |t::p,0,e,c=>by simp [dw]
 |t::p,i+1,e,c=>by
  have:=JM p i e c
  have e1:dw (t::p)=I t.1::I t.2::dw p:=rfl;have e2:(i+1)*2=(i*2)+1+1:=by omega
  have e3:(i+1)*2+1=(i*2+1)+1+1:=by omega
  rw [e1,e3,e2,List.set_cons_succ,List.set_cons_succ,List.set_cons_succ,List.set_cons_succ,this];rfl
def oh (q:List (Int×Int)) (i:Nat):List (Int×Int):=(List.range q.length).map fun x=>q.getD (if x<i\/q.length<=x+i then q.length-1-x else x) (0,0)
theorem vL (q:List (Int×Int)) (i:Nat):(oh q i).length=q.length:=by simp [oh]
theorem Bx (q:List (Int×Int)) (i x:Nat) (h:x<q.length):(oh q i).getD x (0,0)=q.getD (if x<i\/q.length<=x+i then q.length-1-x else x) (0,0):=by
 unfold oh;simp only [List.getD_eq_getElem?_getD,List.getElem?_map,List.getElem?_range h,Option.map_some,Option.getD_some]
theorem KA {l k:List (Int×Int)} (hl:l.length=k.length) (h: ∀x,x<l.length->l.getD x (0,0)=k.getD x (0,0)):l=k:=by
 refine List.ext_getElem hl fun x h1 h2=>?_
 have:=h x h1
 simpa [List.getD_eq_getElem?_getD,h1,h2] using this
theorem DT (q:List (Int×Int)):oh q 0=q:=by
 refine KA (vL q 0) fun x hx=>?_;rw [vL] at hx;rw [Bx q 0 x hx,if_neg (by omega)]
theorem Tu (l:List (Int×Int)) (i j:Nat) (v:Int×Int) (hi:i<l.length):(l.set i v).getD j (0,0)=if i=j then v else l.getD j (0,0):=by
 by_cases h:i=j
 ·subst h;simp [hi]
 ·rw [if_neg h];simp [List.getD_eq_getElem?_getD,List.getElem?_set_ne h]
theorem Oz (q:List (Int×Int)) (i j:Nat) (hj:j=q.length-1-i) (h:i<j):((oh q i).set i ((oh q i).getD j (0,0))).set j ((oh q i).getD i (0,0))=oh q (i+1):=by
 refine KA (by simp [vL]) fun x hx=>?_;simp only [List.length_set,vL] at hx;rw [Tu _ _ _ _ (by simp [vL];omega),Tu _ _ _ _ (by rw [vL];omega),Bx q (i+1) x hx,Bx q i x hx,Bx q i i (by omega),Bx q i j (by omega)];by_cases e1:j=x
 ·subst e1;rw [if_pos rfl,if_neg (by omega),if_pos (by omega)];congr 1;omega
 ·rw [if_neg e1];by_cases e2:i=x
  ·subst e2;rw [if_pos rfl,if_neg (by omega),if_pos (by omega)];congr 1
  ·rw [if_neg e2];by_cases e3:x<i\/q.length<=x+i
   ·rw [if_pos e3,if_pos (by omega)]
   ·rw [if_neg e3,if_neg (by omega)]
theorem M4 (q:List (Int×Int)) (i:Nat) (h:q.length<=2*i+1):oh q i=q.reverse:=by
 refine KA (by simp [vL]) fun x hx=>?_;rw [vL] at hx;rw [Bx q i x hx]
 have:q.reverse.getD x (0,0)=q.getD (q.length-1-x) (0,0):=by simp [List.getD_eq_getElem?_getD,List.getElem?_reverse hx]
 rw [this]
 split
 ·rfl
 ·congr 1;omega
abbrev DU (p:List (Int×Int)) (q:List (Int×Int)) (n:Nat):Hp:=[(3, .cells 29 (.lst [.bool false, .sl 2 2 0 n])),(2, .cells 75 (.lst (dw q))),(1, .cells 29 (.lst [.bool false, .nils])),(0, .cells 29 (.lst [.bool false,tmA p]))]
theorem YC (p q:List (Int×Int)) (hn:q.length<=500000) (h2:1<q.length) {fr:Fr} {K:AV->Fr->Hp->Prop} (dA: ∀H':Hp,(hget H' 0).isSome=true->(hget H' 1).isSome=true->(hget H' 2).isSome=true->(hget H' 3).isSome=true-> ∀t,fget fr t= .any\/s3 H' (fget fr t)=true)
  (hK:K (.tup []) fr (DU p q.reverse q.length)):fM Tryz.prog 128 [.sl 2 2 0 q.length] fr (DU p q q.length) K:=by
 refine fM.intro [] Tryz.func128 rfl rfl (by decide) (by simp [Tryz.ntmps128]) ?_;rw [Tryz.ntmps128]
 repeat' (first|omega|(try apply ag);simp only [go_sem,sevalprocAttr]|apply ah<;>(intro h_;(try simp only [h_]);revert h_)|apply ai|apply aj|apply ae|apply And.intro|with_reducible intro h_|trivial|simp only [go_sem,ak];omega)
 refine bV.intro (fun n fr' H=> ∃i:Nat,2*i<=q.length/\n=q.length-i/\fr'=[(2,I i),(3,I ((q.length:Int)-1-i)),(0, .sl 2 2 0 q.length)]++lft fr/\H=DU p (oh q i) q.length) ?_ ?_
 ·refine ⟨_,_,_,?_,0,by omega,rfl,rfl,rfl⟩;rw [DT];refine Wk.app ?_ ?_ (dA _ rfl rfl rfl rfl) (fun t ht=>?_) rfl<;>(simp only [go_sem,sevalprocAttr,yap])
  all_goals repeat rw [if_neg (by omega)]
 rintro n fr' H ⟨i,hi,rfl,rfl,rfl⟩;have hL:=vL q i;have hlen:=ybn (oh q i);by_cases eK:2*i+1<q.length
 ·obtain ⟨j,hj⟩: ∃j:Nat,j=q.length-1-i:=⟨_,rfl⟩;have tP:(q.length:Int)-1-i=(j:Int):=by omega
  have st:=Oz q i j hj (by omega);have w7:decide ((i:Int)<j)=true:=by simp;omega
  have g0:=l7 (oh q i) i (by omega);have g1:=qt (oh q i) i (by omega);have k0:=l7 (oh q i) j (by omega);have k1:=qt (oh q i) j (by omega);rw [tP]
  repeat' (first|omega|(first|apply ag|(refine an.intro (id:=3) UR UQ (by decide+kernel) mixed ?_)|skip);simp only [go_sem,sevalprocAttr,w7,g0,g1,k0,k1,hlen,hL,Int.toNat_natCast,↓reduceIte,reduceCtorEq,UR,UQ]|apply ah<;>(intro h_;(try simp only [h_]);revert h_)|apply ai|apply aj|apply ae|apply And.intro|with_reducible intro h_|trivial|simp only [go_sem,ak];omega)
  rw [JM,JM,st];have PW:(j:Int)-1=(q.length:Int)-1-((i+1:Nat):Int):=by omega
  rw [PW];refine ⟨_,_,_,?_,?_,⟨i+1,by omega,rfl,rfl,rfl⟩⟩
  ·omega
  ·refine Wk.app (A:=[(2,I ((i:Int)+1)),(3,I ((q.length:Int)-1-((i+1:Nat):Int))),(0, .sl 2 2 0 q.length)]) ?_ ?_ (dA (DU p (oh q (i+1)) q.length) rfl rfl rfl rfl) (fun t ht=>?_) rfl<;>(simp only [go_sem,sevalprocAttr,yap])
   all_goals repeat rw [if_neg (by omega)]
 ·have w7:decide ((i:Int)<(q.length:Int)-1-i)=false:=by simp;omega
  rw [M4 q i (by omega)]
  repeat' (first|omega|(try apply ag);simp only [go_sem,sevalprocAttr,w7]|apply ah<;>(intro h_;(try simp only [h_]);revert h_)|apply ai|apply aj|apply ae|apply And.intro|with_reducible intro h_|trivial|simp only [go_sem,ak];omega)
theorem Oy (x:Int) (h0: -1048576<=x) (h1:x<=1048576):Fn Tryz.prog 69 [I x] (I (-x)):=by
 have e:(0:Int)-x= -x:=by omega
 refine Fn.intro [.tmp 2] Tryz.func69 rfl rfl (by decide) (by simp [Tryz.ntmps69]) ?_;rw [Tryz.ntmps69]
 repeat' (first|omega|(try apply ag);simp only [go_sem,sevalprocAttr,e]|apply ah<;>(intro h_;(try simp only [h_]);revert h_)|apply ai|apply aj|apply ae|apply And.intro|with_reducible intro h_|trivial|simp only [go_sem,ak];omega)
theorem ZW (p:List (Int×Int)) (hp: ∀t∈p,-1048576<=t.1/\t.1<=1048576) (qg:1<p.length->(p.getD 0 (0,0)).1<(p.getD 1 (0,0)).1) (hl:p.length<=500000):
  Fn Tryz.prog 68 [plA false p, .fn 69 []] (plA false (qj p)):=by
 refine Fn.aq [.cell 4 29] Tryz.func68 rfl rfl (by decide) (by simp [Tryz.ntmps68]) ?_;rw [Tryz.ntmps68]
 repeat' (first|omega|(try apply ag);simp only [go_sem,sevalprocAttr]|apply ah<;>(intro h_;(try simp only [h_]);revert h_)|apply ai|apply aj|apply ae|apply And.intro|with_reducible intro h_|trivial|simp only [go_sem,ak];omega)
 refine bV.intro (fun n fr H=> ∃i:Nat,i<=p.length/\n=p.length-i/\fr=[(20,I i),(19,I p.length),(18,tmA p),(5, .ptr 3 0),(4, .ptr 1 0),(2, .ptr 0 0),(1, .fn 69 [])]/\H=DU p (kj (p.take i)) i) ?_ ?_
 ·refine ⟨_,_,_,?_,0,by omega,rfl,rfl,rfl⟩;refine Wk.sub ?_ ?_<;>simp only [go_sem,sevalprocAttr]
  all_goals simp [kj,dw]
 rintro n fr H ⟨i,hi,rfl,rfl,rfl⟩;by_cases fi:i<p.length
 ·have t0:=l7 p i fi;have t1:=qt p i fi;have hm:p.getD i (0,0)∈p:=by simp [fi]
  have bi:decide ((i:Int)<p.length)=true:=by simp;omega
  have aC:=hp _ hm;have hs:=Oy (p.getD i (0,0)).1 (by omega) (by omega);have hw:=u9 (-(p.getD i (0,0)).1) 1048576 (by omega) (by omega);rw [show gC (-(p.getD i (0,0)).1) 1048576=true by unfold gC;rw [Bool.and_eq_true,decide_eq_true_eq,decide_eq_true_eq];omega] at hw
  repeat' (first|omega|(first|apply ag|(refine an.intro (id:=12) uQ uP (by decide+kernel) mixed ?_)|skip);simp only [go_sem,sevalprocAttr,t0,t1,bi,↓reduceIte,reduceCtorEq,uQ,uP]|apply ah<;>(intro h_;(try simp only [h_]);revert h_)|apply ai|apply aj|apply ae|apply And.intro|with_reducible intro h_|trivial|simp only [go_sem,ak];omega)
  refine ⟨aA.fn rfl hs ?_⟩
  repeat' (first|omega|(first|apply ag|(refine an.intro (id:=12) uQ uP (by decide+kernel) mixed ?_)|skip);simp only [go_sem,sevalprocAttr,t0,t1,bi,↓reduceIte,reduceCtorEq,uQ,uP]|apply ah<;>(intro h_;(try simp only [h_]);revert h_)|apply ai|apply aj|apply ae|apply And.intro|with_reducible intro h_|trivial|simp only [go_sem,ak];omega)
  refine ⟨aA.fn rfl hw ?_⟩
  repeat' (first|omega|(first|apply ag|(refine an.intro (id:=12) uQ uP (by decide+kernel) mixed ?_)|skip);simp only [go_sem,sevalprocAttr,t0,t1,bi,↓reduceIte,reduceCtorEq,uQ,uP]|apply ah<;>(intro h_;(try simp only [h_]);revert h_)|apply ai|apply aj|apply ae|apply And.intro|with_reducible intro h_|trivial|simp only [go_sem,ak];omega)
  ·simp [kj];omega
  refine ⟨_,_,_,?_,?_,⟨i+1,by omega,rfl,rfl,rfl⟩⟩
  ·omega
  ·have e:kj (p.take (i+1))=kj (p.take i)++[(-(p.getD i (0,0)).1,(p.getD i (0,0)).2)]:=by
    unfold kj;rw [List.take_add_one,List.map_append,List.getElem?_eq_getElem fi];simp [fi]
   rw [zr,←e];refine Wk.sub ?_ ?_<;>simp only [go_sem,sevalprocAttr]
 ·obtain rfl:i=p.length:=by omega
  rw [List.take_length];have bi:decide ((p.length:Int)<p.length)=false:=by simp
  have hle:(kj p).length=p.length:=M5 p;have PQ:(qj p).length=p.length:=by simp [qj,hle]
  by_cases h2:1<p.length
  ·have t0:=l7 (kj p) 0 (by omega);have t1:=l7 (kj p) 1 (by omega);have b2:decide ((1:Int)<p.length)=true:=by simp;omega
   have b3:decide (((kj p).getD 1 (0,0)).1<((kj p).getD 0 (0,0)).1)=true:=by
    have:=qg h2
    unfold kj
    match p,h2 with
    |x::y::r,_=>simp at this⊢;omega
   have vB:= @YC p (kj p) (by omega) (by omega);rw [hle] at vB
   repeat' (first|omega|(first|apply ag|(refine an.intro (id:=12) uQ uP (by decide+kernel) mixed ?_)|skip);simp only [go_sem,sevalprocAttr,t0,t1,bi,b2,b3,↓reduceIte,reduceCtorEq,uQ,uP]|apply ah<;>(intro h_;(try simp only [h_]);revert h_)|apply ai|apply aj|apply ae|apply And.intro|with_reducible intro h_|trivial|simp only [go_sem,ak];omega)
   refine ⟨aA.inline (vB (fun H' g0 g1 g2 g3=>OT (by simp only [go_sem,sevalprocAttr,g0,g1,g2,g3,yap])) ?_)⟩;have PO:(kj p).reverse.length=p.length:=by rw [List.length_reverse,hle]
   repeat' (first|omega|(try apply ag);simp only [go_sem,sevalprocAttr,yfy]|apply ah<;>(intro h_;(try simp only [h_]);revert h_)|apply ai|apply aj|apply ae|apply And.intro|with_reducible intro h_|trivial|simp only [go_sem,ak];omega)
   all_goals exact aR.of (by rw [List.take_of_length_le (by rw [ybn,PO];omega),PQ];rfl)
  ·have b2:decide ((1:Int)<p.length)=false:=by simp;omega
   have e1:qj p=kj p:=by
    unfold qj
    match p,h2 with
    |[],_=>rfl
    |[x],_=>rfl
    |_::_::_,h=>exact absurd (by simp) h
   rw [e1]
   repeat' (first|omega|(first|apply ag|(refine an.intro (id:=12) uQ uP (by decide+kernel) mixed ?_)|skip);simp only [go_sem,sevalprocAttr,bi,b2,↓reduceIte,reduceCtorEq,uQ,uP]|apply ah<;>(intro h_;(try simp only [h_]);revert h_)|apply ai|apply aj|apply ae|apply And.intro|with_reducible intro h_|trivial|simp only [go_sem,ak];omega)
   all_goals (rw [List.take_of_length_le (by rw [ybn,hle];omega),hle];exact aR.refl _)
theorem M3 (p:List (Int×Int)) (hp: ∀t∈p,-1048576<=t.1/\t.1<=1048576) (qg:1<p.length->(p.getD 0 (0,0)).1<(p.getD 1 (0,0)).1) (hl:p.length<=500000):
  Fn Tryz.prog 19 [plA false p] (plA false (qj p)):=by
 have hm:=ZW p hp qg hl;refine Fn.intro [.cell 2 29] Tryz.func19 rfl rfl (by decide) (by simp [Tryz.ntmps19]) ?_;rw [Tryz.ntmps19]
 repeat' (first|omega|(try apply ag);simp only [go_sem,sevalprocAttr,yap]|apply ah<;>(intro h_;(try simp only [h_]);revert h_)|apply ai|apply aj|apply ae|apply And.intro|with_reducible intro h_|trivial|simp only [go_sem,ak];omega)
 refine ⟨aA.fn rfl hm ?_⟩
 repeat' (first|omega|(try apply ag);simp only [go_sem,sevalprocAttr,yfy,yvr]|apply ah<;>(intro h_;(try simp only [h_]);revert h_)|apply ai|apply aj|apply ae|apply And.intro|with_reducible intro h_|trivial|simp only [go_sem,ak];omega)
end Go.Proofs.YtphjphpmfflfpaaGreatDoor
