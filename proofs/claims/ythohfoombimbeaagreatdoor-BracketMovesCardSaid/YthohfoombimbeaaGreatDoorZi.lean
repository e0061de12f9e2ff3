/- Layer 12: the text of a polynomial, as a contract. -/
import Derived.Test.YthohfoombimbeaaGreatDoorTx3
import Derived.Laws.IdiomRangeMap
import Derived.Laws.BytesString
set_option linter.unusedSimpArgs false
set_option linter.unusedVariables false
namespace Go.Proofs.YthohfoombimbeaaGreatDoor
open Go Go.RowKit
set_option maxRecDepth 99999
set_option maxHeartbeats 4000000
def Xq(p:List (Int×Int)):Prop:=∀k,k<p.length-> -4611686018427387904<=(p.getD k (0,0)).1/\(p.getD k (0,0)).1<=4611686018427387904/\ -4611686018427387904<=(p.getD k (0,0)).2/\(p.getD k (0,0)).2<=4611686018427387904
def xX(name:List UInt8)(p:List (Int×Int)):List UInt8:=if p.length=0 then [48] else kb name p p.length
theorem y37(name:ByteArray):Fn Tryz.prog 12 [plA false [],.str name] (.str ⟨#[48]⟩):=by
 refine Fn.intro [.tmp 4] Tryz.func12 rfl rfl (by decide) (by simp[Tryz.ntmps12]) ?_;rw[Tryz.ntmps12]
 repeat' (first|omega|(try apply ah);simp only[go_sem]|apply ag<;>(intro h_;(try simp only[h_]);revert h_)|apply zO|with_reducible intro h_|trivial)
theorem y38(p:List (Int×Int))(name:ByteArray)(kY:0<p.length)(hr:Xq p)(hn:name.size<=1000)(gq:p.length<=1000000):
  Fn Tryz.prog 12 [plA false p,.str name] (.str ⟨(kb name.data.toList p p.length).toArray⟩):=by
 refine⟨⟨_,Tryz.func12,rfl,by decide⟩,fun w Mx vs mT hl hv=>?_⟩
 match vs,hl with
 |[v0,v1],_=>
  have h0:=hv 0 v0 _ rfl rfl;have h1:=(hv 1 v1 _ rfl rfl).cZ;subst h1;obtain⟨us,rfl,rZ,hu⟩:=h0.bD
  match us,rZ with
  |[u0,u1],_=>
   have k0:=(hu 0 u0 _ rfl rfl).bool_inv;have k1:=hu 1 u1 _ rfl rfl;subst k0;cases k1 with
   |ro _ _ _ ad cap x hlen nN _ iR hx=>
    obtain⟨a,rfl,hb,_,hj⟩:=iR kY;have cW:(Cs.lst (e9 p)).len=2*p.length:=yb7 p;refine(y0t p name a cap w kY mT.1 hb (fun k hk=>?_) hr hn gq).mono ?_
    ·have e0:=hx (k*2) (by omega);have e1:=hx (k*2+1) (by omega);rw[show (Cs.lst (e9 p)).get (k*2)=(e9 p).getD (k*2) .any from rfl,ve p k hk]at e0;rw[show (Cs.lst (e9 p)).get (k*2+1)=(e9 p).getD (k*2+1) .any from rfl,Bd p k hk]at e1;refine⟨?_,?_⟩
     ·rw[hj _ (by omega),e0.aq]
     ·rw[hj _ (by omega),e1.aq]
    ·rintro e w' ⟨rfl,s9⟩;exact⟨_,rfl,s9,.str _⟩
theorem Rk(p:List (Int×Int))(name:ByteArray)(hr:Xq p)(hn:name.size<=1000)(gq:p.length<=1000000):
  Fn Tryz.prog 12 [plA false p,.str name] (.str ⟨(xX name.data.toList p).toArray⟩):=by
 unfold xX
 split
 ·obtain rfl:p=[]:=zT (by assumption);exact y37 name
 ·exact y38 p name (by omega) hr hn gq
set_option maxHeartbeats 8000000
theorem YU:Fn Tryz.prog 11 [] (dgA [1,1,1] [9,4,7,10,1,8,11,2,5,0,3,6] 0):=by
 refine Fn.av [.cell 0 24] Tryz.func11 rfl rfl (by decide) (by simp[Tryz.ntmps11]) ?_;rw[Tryz.ntmps11]
 repeat' (first|omega|(try apply ah);simp only[go_sem]|apply ag<;>(intro h_;(try simp only[h_]);revert h_)|apply zO|with_reducible intro h_|trivial)
 all_goals exact aT.refl _
theorem G4:Fn Tryz.prog 12 [plA false [(3,-1)],.str ⟨#[65]⟩] (.str ⟨#[45,65,94,51]⟩):=by
 have h:=Rk [(3,-1)] ⟨#[65]⟩ (fun k hk=>by
  match k,hk with
  |0,_=>decide) (by decide) (by decide)
 rw[show (⟨#[65]⟩:ByteArray).data.toList=[65] from rfl,show xX [65] [(3,-1)]=[45,65,94,51] by decide+kernel]at h;exact h
theorem G3:Fn Tryz.prog 12 [plA false [(-7,1),(-3,-1),(5,-1)],.str ⟨#[65]⟩] (.str ⟨#[65,94,45,55,45,65,94,45,51,45,65,94,53]⟩):=by
 have h:=Rk [(-7,1),(-3,-1),(5,-1)] ⟨#[65]⟩ (fun k hk=>by
  match k,hk with
  |0,_=>decide
  |1,_=>decide
  |2,_=>decide) (by decide) (by decide)
 rw[show (⟨#[65]⟩:ByteArray).data.toList=[65] from rfl,show xX [65] [(-7,1),(-3,-1),(5,-1)]=[65,94,45,55,45,65,94,45,51,45,65,94,53] by decide+kernel]at h;exact h
theorem Yd:Fn Tryz.prog 4 [] (.bool true):=by
 have h1:=ZJ;have h3:=ZI;refine Fn.av [.tmp 0] Tryz.func4 rfl rfl (by decide) (by simp[Tryz.ntmps4]) ?_;rw[Tryz.ntmps4]
 repeat' (first|omega|(try apply ah);simp only[go_sem]|apply ag<;>(intro h_;(try simp only[h_]);revert h_)|apply zO|with_reducible intro h_|trivial)
 refine⟨aL.wO [0,1] rfl (by simp only[go_sem]) (by simp only[go_sem]) (by simp only[go_sem]) (by simp only[go_sem]) rfl rfl rfl (aL.fn rfl h1 ?_)⟩
 repeat' (first|omega|(try apply ah);simp only[go_sem]|apply ag<;>(intro h_;(try simp only[h_]);revert h_)|apply zO|with_reducible intro h_|trivial)
 refine⟨aL.fn rfl YU ?_⟩
 repeat' (first|omega|(try apply ah);simp only[go_sem]|apply ag<;>(intro h_;(try simp only[h_]);revert h_)|apply zO|with_reducible intro h_|trivial)
 refine⟨aL.fn rfl h3 ?_⟩
 repeat' (first|omega|(try apply ah);simp only[go_sem]|apply ag<;>(intro h_;(try simp only[h_]);revert h_)|apply zO|with_reducible intro h_|trivial)
 refine⟨aL.fn rfl G4 ?_⟩
 repeat' (first|omega|(try apply ah);simp only[go_sem]|apply ag<;>(intro h_;(try simp only[h_]);revert h_)|apply zO|with_reducible intro h_|trivial)
 refine⟨aL.fn rfl G3 ?_⟩
 repeat' (first|omega|(try apply ah);simp only[go_sem]|apply ag<;>(intro h_;(try simp only[h_]);revert h_)|apply zO|with_reducible intro h_|trivial)
 all_goals exact aT.refl _
theorem Mb:aT (.agg [.bool false,.nils]) (plA false []):=aT.pK (.cons (aT.refl _) (.cons (aT.nils (by omega) rfl) .nil))
theorem Un(s m:List Int)(L:Int)(hv:bG s m L=true)(h0:¬(s.length=0/\L=0))(h:14<s.length\/20<L):Fn Tryz.prog 7 [dgA s m L] (.tup [plA false [],I 5]):=by
 have hV:=C4 s m L;rw[hv]at hV;by_cases hs:s.length=0
 ·have b0:((s.length:Int)==0)=true:=by simp[hs]
  have b1:(L==0)=false:=by rw[zX];omega
  have b2:decide ((14:Int)<s.length)=false:=by simp;omega
  have b3:decide ((20:Int)<L)=true:=by simp;omega
  refine Fn.av [.cell 2 34,.tmp 3] Tryz.func7 rfl rfl (by decide) (by simp[Tryz.ntmps7]) ?_;rw[Tryz.ntmps7]
  repeat' (first|omega|(try apply ah);simp only[go_sem]|apply ag<;>(intro h_;(try simp only[h_]);revert h_)|apply zO|with_reducible intro h_|trivial)
  all_goals refine⟨aL.fn rfl hV ?_⟩
  all_goals (repeat' (first|omega|(try apply ah);simp only[go_sem,b0,b1,b2,b3]|apply ag<;>(intro h_;(try simp only[h_]);revert h_)|apply zO|with_reducible intro h_|trivial))
  all_goals exact aT.xY (.cons Mb (.cons (aT.refl _) .nil))
 ·have b0:((s.length:Int)==0)=false:=by rw[zX];omega
  by_cases h14:14<s.length
  ·have b2:decide ((14:Int)<s.length)=true:=by simp;omega
   refine Fn.av [.cell 2 34,.tmp 3] Tryz.func7 rfl rfl (by decide) (by simp[Tryz.ntmps7]) ?_;rw[Tryz.ntmps7]
   repeat' (first|omega|(try apply ah);simp only[go_sem]|apply ag<;>(intro h_;(try simp only[h_]);revert h_)|apply zO|with_reducible intro h_|trivial)
   all_goals refine⟨aL.fn rfl hV ?_⟩
   all_goals (repeat' (first|omega|(try apply ah);simp only[go_sem,b0,b2]|apply ag<;>(intro h_;(try simp only[h_]);revert h_)|apply zO|with_reducible intro h_|trivial))
   all_goals exact aT.xY (.cons Mb (.cons (aT.refl _) .nil))
  ·have b2:decide ((14:Int)<s.length)=false:=by simp;omega
   have b3:decide ((20:Int)<L)=true:=by simp;omega
   refine Fn.av [.cell 2 34,.tmp 3] Tryz.func7 rfl rfl (by decide) (by simp[Tryz.ntmps7]) ?_;rw[Tryz.ntmps7]
   repeat' (first|omega|(try apply ah);simp only[go_sem]|apply ag<;>(intro h_;(try simp only[h_]);revert h_)|apply zO|with_reducible intro h_|trivial)
   all_goals refine⟨aL.fn rfl hV ?_⟩
   all_goals (repeat' (first|omega|(try apply ah);simp only[go_sem,b0,b2,b3]|apply ag<;>(intro h_;(try simp only[h_]);revert h_)|apply zO|with_reducible intro h_|trivial))
   all_goals exact aT.xY (.cons Mb (.cons (aT.refl _) .nil))
def HJ(s m:List Int)(L:Int):Bool:=(decide (9<s.length)&&decide (s.length<=14))||(decide (60<m.length)||(decide (10<L)&&decide (L<=20)))
theorem Yc(s m:List Int)(L:Int):Fn Tryz.prog 5 [dgA s m L] (.bool (HJ s m L)):=by
 have e1:decide ((9:Int)<s.length)=decide (9<s.length):=decide_eq_decide.2 (by omega);have e2:decide ((s.length:Int)<=14)=decide (s.length<=14):=decide_eq_decide.2 (by omega);have e3:decide ((60:Int)<m.length)=decide (60<m.length):=decide_eq_decide.2 (by omega);unfold HJ;generalize decide (9<s.length)=x1 at*;generalize decide (s.length<=14)=x2 at*;generalize decide (60<m.length)=x3 at*
 obtain⟨x4,e4⟩:∃x,decide (10<L)=x:=⟨_,rfl⟩;obtain⟨x5,e5⟩:∃x,decide (L<=20)=x:=⟨_,rfl⟩;rw[e4,e5];refine Fn.intro [.tmp 2] Tryz.func5 rfl rfl (by decide) (by simp[Tryz.ntmps5]) ?_;rw[Tryz.ntmps5];cases x1<;>cases x2<;>cases x3<;>cases x4<;>cases x5
 all_goals (repeat' (first|omega|(try apply ah);simp only[go_sem,e1,e2,e3,e4,e5]|apply ag<;>(intro h_;(try simp only[h_]);revert h_)|apply zO|with_reducible intro h_|trivial))
def ZH:fc:=[(6,[[17,20,21,22,23],[16,20,21,22,23],[20,21,22,23],[20,21,22,23],[16,17,18,19,21],[16,17,18,19,20],[16,17,18,19],[16,17,18,19],[]],[[],[0],[],[],[0,1,2,3],[0,1,2,3,4],[0,1,2,3],[0,1,2,3],[]])]
theorem SK:DW Tryz.prog 57=true:=by decide+kernel
theorem ZG(p:List (Int×Int))(hl:p.length<=1000000):Fn Tryz.prog 27 [.ro 2 p.length (.lst (e9 p)),.ro 2 p.length (.lst (e9 p))] (.bool true):=by
 have hlen:=yb7 p;have b0:((p.length:Int)!=p.length)=false:=by simp
 refine Fn.intro [.tmp 4] Tryz.func27 rfl rfl (by decide) (by simp[Tryz.ntmps27]) ?_;rw[Tryz.ntmps27]
 repeat' (first|omega|(try apply ah);simp only[go_sem,b0]|apply ag<;>(intro h_;(try simp only[h_]);revert h_)|apply zO|with_reducible intro h_|trivial)
 refine dr.intro (fun n fr H=>∃k:Nat,k<=p.length/\n=p.length-k/\fr=[(13,I k),(12,I p.length),(1,.ro 2 p.length (.lst (e9 p))),(0,.ro 2 p.length (.lst (e9 p)))]/\H=[]) ?_ ?_
 ·refine⟨_,_,_,?_,0,by omega,rfl,rfl,rfl⟩;refine Wk.sub ?_ ?_<;>(simp only[go_sem,ybm])
 rintro n fr H ⟨k,hk,rfl,rfl,rfl⟩;by_cases cX:k<p.length
 ·have g0:=ve p k cX;have g1:=Bd p k cX;have b1:((p.getD k (0,0)).1==(p.getD k (0,0)).1)=true:=by simp
  have b2:((p.getD k (0,0)).2==(p.getD k (0,0)).2)=true:=by simp
  repeat' (first|omega|(first|apply ah|refine aw ZH ?_|skip);simp only[go_sem,g0,g1,hlen,b1,b2,SK]|apply ag<;>(intro h_;(try simp only[h_]);revert h_)|apply zO|with_reducible intro h_|trivial)
  all_goals (first|exact SK|skip)
  refine⟨_,_,_,?_,?_,⟨k+1,by omega,rfl,rfl,rfl⟩⟩
  ·omega
  ·refine Wk.sub ?_ ?_<;>(simp only[go_sem,ybm])
 ·obtain rfl:k=p.length:=by omega
  repeat' (first|omega|(try apply ah);simp only[go_sem]|apply ag<;>(intro h_;(try simp only[h_]);revert h_)|apply zO|with_reducible intro h_|trivial)
theorem SJ(p:List (Int×Int))(hl:p.length<=1000000):Fn Tryz.prog 8 [plA false p,plA false p] (.bool true):=by
 have hS:=ZG p hl;refine Fn.intro [.tmp 4] Tryz.func8 rfl rfl (by decide) (by simp[Tryz.ntmps8]) ?_;rw[Tryz.ntmps8]
 repeat' (first|omega|(try apply ah);simp only[go_sem,ybm]|apply ag<;>(intro h_;(try simp only[h_]);revert h_)|apply zO|with_reducible intro h_|trivial)
 refine⟨aL.fn rfl hS ?_⟩
 repeat' (first|omega|(try apply ah);simp only[go_sem]|apply ag<;>(intro h_;(try simp only[h_]);revert h_)|apply zO|with_reducible intro h_|trivial)
def Ei:fc:=[(12,[[],[],[],[],[],[52,53,54,55,56],[52,53,54,55,56],[52,53,54,55,56],[52,53,54,55,56],[52,53,54,55,56],[47,48,49,50,51],[47,48,49,50,51],[47,48,49,50,51],[47,48,49,50,51],[47,48,49,50,51],[],[]],[[],[],[],[],[],[],[],[],[],[],[5,6,7,8,9],[5,6,7,8,9],[5,6,7,8,9],[5,6,7,8,9],[5,6,7,8,9],[],[]])]
theorem y7r(a b:Int)(h3: -1125899906842624<=b)(h4:b<=1125899906842624):Fn Tryz.prog 32 [I a,I b] (I (oR a b)):=by
 unfold oR;refine Fn.intro [.tmp 4] Tryz.func32 rfl rfl (by decide) (by simp[Tryz.ntmps32]) ?_;rw[Tryz.ntmps32]
 repeat' (first|omega|(try apply ah);simp only[go_sem]|apply ag<;>(intro h_;(try simp only[h_]);revert h_)|apply zO|with_reducible intro h_|trivial)
theorem ZF(q:List (Int×Int))(hq:wZ q)(qJ:q.length<=500000)(dt:rJ (dR oR [] q)=true):Fn Tryz.prog 10 [plA false q] (plA false (nz (dR oR [] q))):=by
 have hc:=TX [] q 32 oR (fun _ h=>by cases h) hq (by simp) qJ (fun a b h1 h2 h3 h4=>y7r a b h3 h4);rw[zM dt]at hc;have lI:=hc.arg (args':=[.agg [.bool false,.nils],plA false q,.fn 32 []]) (.cons (aT.pK (.cons (aT.refl _) (.cons (aT.nils (by omega) rfl) .nil))) (.cons (aT.refl _) (.cons (aT.refl _) .nil)))
 refine Fn.intro [.cell 2 34] Tryz.func10 rfl rfl (by decide) (by simp[Tryz.ntmps10]) ?_;rw[Tryz.ntmps10]
 repeat' (first|omega|(try apply ah);simp only[go_sem]|apply ag<;>(intro h_;(try simp only[h_]);revert h_)|apply zO|with_reducible intro h_|trivial)
 refine⟨aL.fn rfl lI ?_⟩
 repeat' (first|omega|(try apply ah);simp only[go_sem]|apply ag<;>(intro h_;(try simp only[h_]);revert h_)|apply zO|with_reducible intro h_|trivial)
theorem y0u(e ui:Int)(h1: -1125899906842624<=e)(h2:e<=1125899906842624)(h3: -1125899906842624<=ui)(h4:ui<=1125899906842624):Fn Tryz.prog 30 [I e,.rp (.lst [I ui]) 0] (I (e+ui)):=by
 refine Fn.intro [.tmp 3] Tryz.func30 rfl rfl (by decide) (by simp[Tryz.ntmps30]) ?_;rw[Tryz.ntmps30]
 repeat' (first|omega|(try apply ah);simp only[go_sem]|apply ag<;>(intro h_;(try simp only[h_]);revert h_)|apply zO|with_reducible intro h_|trivial)
theorem y0v(p:List (Int×Int))(k:Int)(p7: -1048576<=k)(wh:k<=1048576)(hp:∀t∈p,-1048576<=t.1/\t.1<=1048576)(hf:∀t∈p,jO (t.1+k) 1048576=true)(B3:1<p.length->(p.getD 0 (0,0)).1<=(p.getD 1 (0,0)).1)(hl:p.length<=500000):
  Fn Tryz.prog 29 [plA false p,.fn 30 [.rp (.lst [I k]) 0]] (plA false (nE k p)):=by
 refine Fn.av [.cell 4 34] Tryz.func29 rfl rfl (by decide) (by simp[Tryz.ntmps29]) ?_;rw[Tryz.ntmps29]
 repeat' (first|omega|(try apply ah);simp only[go_sem]|apply ag<;>(intro h_;(try simp only[h_]);revert h_)|apply zO|with_reducible intro h_|trivial)
 refine dr.intro (fun n fr H=>∃i:Nat,i<=p.length/\n=p.length-i/\fr=[(20,I i),(19,I p.length),(18,tmA p),(5,.ptr 3 0),(4,.ptr 1 0),(2,.ptr 0 0),(1,.fn 30 [.rp (.lst [I k]) 0])]/\H=[(3,.cells 34 (.lst [.bool false,.sl 2 2 0 i])),(2,.cells 57 (.lst (e9 (nE k (p.take i))))),(1,.cells 34 (.lst [.bool false,.nils])),(0,.cells 34 (.lst [.bool false,tmA p]))]) ?_ ?_
 ·refine⟨_,_,_,?_,0,by omega,rfl,rfl,rfl⟩;refine Wk.sub ?_ ?_<;>simp only[go_sem]
  all_goals simp[nE,e9]
 rintro n fr H ⟨i,hi,rfl,rfl,rfl⟩;by_cases iN:i<p.length
 ·have t0:=ve p i iN;have t1:=Bd p i iN;have hm:p.getD i (0,0)∈p:=by simp[iN]
  have bi:decide ((i:Int)<p.length)=true:=by simp;omega
  have dM:=hp _ hm;have hs:=y0u (p.getD i (0,0)).1 k (by omega) (by omega) (by omega) (by omega);have hw:=Bb ((p.getD i (0,0)).1+k) 1048576 (by omega) (by omega);rw[hf _ hm]at hw
  repeat' (first|omega|(first|apply ah|refine aw Ei ?_|skip);simp only[go_sem,t0,t1,bi]|apply ag<;>(intro h_;(try simp only[h_]);revert h_)|apply zO|with_reducible intro h_|trivial)
  refine⟨aL.fn rfl hs ?_⟩
  repeat' (first|omega|(first|apply ah|refine aw Ei ?_|skip);simp only[go_sem,t0,t1,bi]|apply ag<;>(intro h_;(try simp only[h_]);revert h_)|apply zO|with_reducible intro h_|trivial)
  refine⟨aL.fn rfl hw ?_⟩
  repeat' (first|omega|(first|apply ah|refine aw Ei ?_|skip);simp only[go_sem,t0,t1,bi]|apply ag<;>(intro h_;(try simp only[h_]);revert h_)|apply zO|with_reducible intro h_|trivial)
  ·simp[nE];omega
  refine⟨_,_,_,?_,?_,⟨i+1,by omega,rfl,rfl,rfl⟩⟩
  ·omega
  ·have e:nE k (p.take (i+1))=nE k (p.take i)++[((p.getD i (0,0)).1+k,(p.getD i (0,0)).2)]:=by
    unfold nE;rw[List.take_add_one,List.map_append,zJ iN];simp[iN]
   rw[EH,<-e];refine Wk.sub ?_ ?_<;>simp only[go_sem]
 ·obtain rfl:i=p.length:=by omega
  rw[List.take_length];have bi:decide ((p.length:Int)<p.length)=false:=by simp
  have hle:(nE k p).length=p.length:=by simp[nE]
  by_cases h2:1<p.length
  ·have t0:=ve (nE k p) 0 (by omega);have t1:=ve (nE k p) 1 (by omega);have b2:decide ((1:Int)<p.length)=true:=by simp;omega
   have b3:decide (((nE k p).getD 1 (0,0)).1<((nE k p).getD 0 (0,0)).1)=false:=by
    have:=B3 h2
    unfold nE
    match p,h2 with
    |x::y::r,_=>simp at this⊢;omega
   repeat' (first|omega|(first|apply ah|refine aw Ei ?_|skip);simp only[go_sem,t0,t1,bi,b2,b3]|apply ag<;>(intro h_;(try simp only[h_]);revert h_)|apply zO|with_reducible intro h_|trivial)
   all_goals (rw[zU (by rw[yb7,hle];omega),hle];exact aT.refl _)
  ·have b2:decide ((1:Int)<p.length)=false:=by simp;omega
   repeat' (first|omega|(first|apply ah|refine aw Ei ?_|skip);simp only[go_sem,bi,b2]|apply ag<;>(intro h_;(try simp only[h_]);revert h_)|apply zO|with_reducible intro h_|trivial)
   all_goals (rw[zU (by rw[yb7,hle];omega),hle];exact aT.refl _)
theorem y39(p:List (Int×Int))(k:Int)(p7: -1048576<=k)(wh:k<=1048576)(hp:∀t∈p,-1048576<=t.1/\t.1<=1048576)(hf:∀t∈p,jO (t.1+k) 1048576=true)(B3:1<p.length->(p.getD 0 (0,0)).1<=(p.getD 1 (0,0)).1)(hl:p.length<=500000):
  Fn Tryz.prog 9 [plA false p,I k] (plA false (nE k p)):=by
 have hm:=y0v p k p7 wh hp hf B3 hl;have hw:=Bb k 2097152 (by omega) (by omega);rw[show jO k 2097152=true by unfold jO;simp;omega]at hw;refine Fn.intro [.cell 4 34] Tryz.func9 rfl rfl (by decide) (by simp[Tryz.ntmps9]) ?_;rw[Tryz.ntmps9]
 repeat' (first|omega|(try apply ah);simp only[go_sem]|apply ag<;>(intro h_;(try simp only[h_]);revert h_)|apply zO|with_reducible intro h_|trivial)
 refine⟨aL.fn rfl hw ?_⟩
 repeat' (first|omega|(try apply ah);simp only[go_sem]|apply ag<;>(intro h_;(try simp only[h_]);revert h_)|apply zO|with_reducible intro h_|trivial)
 refine⟨aL.wO [1] rfl (by simp only[go_sem]) (by simp only[go_sem]) (by simp only[go_sem]) (by simp only[go_sem]) rfl rfl rfl (aL.fn rfl hm ?_)⟩
 repeat' (first|omega|(try apply ah);simp only[go_sem]|apply ag<;>(intro h_;(try simp only[h_]);revert h_)|apply zO|with_reducible intro h_|trivial)
theorem ZE{m:List Int}{n L:Nat}(hp:jo m n)(hn:n<=9)(hL:L<=20){e:Int}(he:dF m n L 1 e≠0): -100<=e/\e<=100:=by
 have h1:=CZ hp he;omega
theorem Vc(k:Int):∀(p:List (Int×Int)) (e:Int),bM (nE k p) e=bM p (e-k)
 |[],_=>rfl
 |t::p,e=>by
  have ih:=Vc k p e;rw[show nE k (t::p)=(t.1+k,t.2)::nE k p from rfl];simp only[bM];by_cases h:t.1=e-k
  ·rw[zM (by omega),zM h,ih]
  ·rw[zL (by omega),zL h,ih]
theorem y4a{p:List (Int×Int)}{f:Int->Int}(k:Int)(hk: -1000<=k/\k<=1000)(h:fe p f)(hs:∀e,f e≠0-> -1000<=e/\e<=1000):
  fe (nE k p) (fun e=>f (e-k))/\Fn Tryz.prog 9 [plA false p,I k] (plA false (nE k p)):=by
 have hr:∀t∈p,-1000<=t.1/\t.1<=1000:=fun t ht=>hs _ (h.mem ht).2;refine⟨⟨⟨?_,fun t ht=>?_⟩,fun e=>by rw[Vc,h.cf]⟩,y39 p k (by omega) (by omega) (fun t ht=>by have:=hr t ht;omega) (fun t ht=>by have:=hr t ht;unfold jO;simp;omega) (fun h2=>?_) (by have:=h.len hs;omega)⟩
 ·unfold nE;rw[List.pairwise_map];exact h.asc.asc.imp fun gL=>by show _<_;omega
 ·obtain⟨u,hu,rfl⟩:=zzE.1 ht;exact h.asc.nz u hu
 ·have:=List.pairwise_iff_getElem.1 h.asc.asc 0 1 (by omega) h2 (by omega)
  simp only[zB,zJ h2,zJ (show 0<p.length by omega),Option.getD_some];omega
theorem ZD{p:List (Int×Int)}{f:Int->Int}(h:fe p f)(hs:∀e,f e≠0-> -1000<=e/\e<=1000)(hb:∀e,-1125899906842624<=f e/\f e<=1125899906842624):
  ∃q,fe q (fun e=> -f e)/\Fn Tryz.prog 10 [plA false p] (plA false q):=by
 have ha:=RQ oR [] p .nil h.asc.asc;refine⟨_,⟨QK ha,fun e=>?_⟩,ZF p (h.fits hb) (by have:=h.len hs;omega) ?_⟩
 ·rw[QL,you oR rfl [] p .nil h.asc.asc,h.cf];rfl
 ·unfold rJ;refine zZ.2 fun t ht=>?_;have h1:=SE ha ht;rw[you oR rfl [] p .nil h.asc.asc,h.cf]at h1;have h2:=hb t.1;rw[<-h1];unfold jO oR;simp;omega
theorem Rj{w w':World}{Mx:Nat->Prop}{ρ':Nat->Addr}{a0:Act}{t id n:Nat}{l:List Int}{H0:Hp}{w1:js}(hs:aO w.heap.size w1 Mx 0 w' ρ' [] H0 a0)(hid:hget H0 id=some (.cells t (.ints l)))(hn:l.length=n){v:Value}
  (hv:VR w' (MM Mx H0 ρ') ρ' (DD H0) v (.sl 1 id 0 n)):VR w' (fun b=>b<w.heap.size) ρ0 (fun _=>False) v (.ro 1 n (.ints l)):=by
 have hr:=hs.objs id _ hid;have ho:=hs.own id _ hid rfl;have aC:=hr.lt rfl;obtain⟨g1,arr,g2,g3,g4⟩:=hr;obtain⟨x,k1,k2⟩:=Nj (My:=fun b=>b<w.heap.size) (ρ0:=ρ0) (c:= .ints l) (c':= .ints l) g1 g2 g3 rfl fun j hj=>by
  obtain⟨u,q1,q2⟩:=g4 j hj;refine⟨u,q1,?_⟩;simp only[Cs.get]at q2⊢;cases q2;exact .int _ _
 cases hv with
 |sl _ _ _ _ cap hd hc bA t' ad ha hb ik=>
  refine .ro 1 n (.ints l) (some ad) cap x (by simp[Cs.len];omega) hc (by omega) (fun h0=>⟨ad,rfl,?_⟩) fun j hj=>k2 j (by simpa [Cs.len] using hj);have e:=ha (by omega);rw[show (ρ' id).add 0=ρ' id from rfl]at e;subst e;exact⟨aC,fun hb=>by omega,fun j hj=>k1 j (by simpa [Cs.len] using hj)⟩
theorem xI.ofD{P:Program}{f:Nat}{args:List AV}{n k i j t u:Nat}{S M:List Int}{L:Int}{H0:Hp}(h:nD P f args (.agg [.sl 1 i 0 n,.sl 1 j 0 k,I L]) H0)(hi:hget H0 i=some (.cells t (.ints S)))(hj:hget H0 j=some (.cells u (.ints M)))(hn:S.length=n)(hk:M.length=k):xI P f args (dgA S M L):=by
 refine⟨h.1,fun w Mx vs h1 h2 h3=>(h.2 w Mx vs h1 h2 h3).mono ?_⟩;rintro e w' ⟨v,ρ',rfl,hs,hv⟩;refine⟨v,rfl,hs.below,?_⟩;cases hv with
 |agg vs xs hl hx=>
  refine .agg vs _ hl fun q v' x' uM fT=>?_
  match q,fT with
  |0,fT=>
   cases fT
   have:=Rj hs hi hn (hx 0 v' _ uM rfl)
   rw[<-hn]at this;exact this
  |1,fT=>
   cases fT
   have:=Rj hs hj hk (hx 1 v' _ uM rfl)
   rw[<-hk]at this;exact this
  |2,fT=>
   cases fT;have hv1:=hx 2 v' _ uM rfl;cases hv1;exact .int _ _
  |q+3,fT=>cases fT
theorem xI.Od{P:Program}{f:Nat}{args:List AV}{L:Int}(h:nD P f args (.agg [.nils,.nils,I L]) []):xI P f args (dgA [] [] L):=by
 refine⟨h.1,fun w Mx vs h1 h2 h3=>(h.2 w Mx vs h1 h2 h3).mono ?_⟩;rintro e w' ⟨v,ρ',rfl,hs,hv⟩;refine⟨v,rfl,hs.below,?_⟩;have nl:∀{v:Value} {D:Nat->Prop} {M:Nat->Prop} {ρ:Nat->Addr},VR w' M ρ D v .nils->VR w' (fun b=>b<w.heap.size) ρ0 (fun _=>False) v (roI []):=fun hv=>(aT.nils (c:= .ints []) (by omega) rfl).out _ _ _ _ _ (by cases hv;exact .nils);cases hv with
 |agg vs xs hl hx=>
  refine .agg vs _ hl fun q v' x' uM fT=>?_
  match q,fT with
  |0,fT=>
   cases fT;exact nl (hx 0 v' _ uM rfl)
  |1,fT=>
   cases fT;exact nl (hx 1 v' _ uM rfl)
  |2,fT=>
   cases fT;have hv1:=hx 2 v' _ uM rfl;cases hv1;exact .int _ _
  |q+3,fT=>cases fT
def Lj:fc:=[(10,[[46,47,48,49],[46,47,48,49],[44,45,47],[44,45,46],[44,45],[44,45],[],[],[]],[[],[],[0,1],[0,1,2],[0,1],[0,1],[],[],[]])]
def Li:wV:=[(10,.node [(0,.node [(1,.node [(2,trD [3,4,5,6,7,8]),(3,trD [2,4,5,6,7,8])]),(2,.node [(1,trD [3,4,5,6,7,8]),(3,.node [(1,trD [4,5,6,7,8]),(4,.node [(1,trD [5,6,7,8]),(5,trD [1,6,7,8])])])]),(3,.node [(1,trD [2,4,5,6,7,8]),(2,.node [(1,trD [4,5,6,7,8]),(4,.node [(1,trD [5,6,7,8]),(5,trD [1,6,7,8])])])])]),(2,.node [(0,.node [(1,trD [3,4,5,6,7,8]),(3,.node [(1,trD [4,5,6,7,8]),(4,.node [(1,trD [5,6,7,8]),(5,trD [1,6,7,8])])])]),(3,.node [(0,.node [(1,trD [4,5,6,7,8]),(4,.node [(1,trD [5,6,7,8]),(5,trD [1,6,7,8])])]),(4,.node [(0,.node [(1,trD [5,6,7,8]),(5,trD [1,6,7,8])]),(5,trD [0,1,6,7,8])])])]),(3,.node [(0,.node [(1,trD [2,4,5,6,7,8]),(2,.node [(1,trD [4,5,6,7,8]),(4,.node [(1,trD [5,6,7,8]),(5,trD [1,6,7,8])])])]),(2,.node [(0,.node [(1,trD [4,5,6,7,8]),(4,.node [(1,trD [5,6,7,8]),(5,trD [1,6,7,8])])]),(4,.node [(0,.node [(1,trD [5,6,7,8]),(5,trD [1,6,7,8])]),(5,trD [0,1,6,7,8])])])])])]
theorem Ri(s:List Int)(g:Nat->Bool):∀k,(fC s g k).length<=k
 |0=>by simp[fC]
 |k+1=>by
  have:=Ri s g k
  simp only[fC];split
  ·omega
  ·rw[zG];simp;omega
theorem Rh(m:List Int)(g:Nat->Bool)(f:Int->Int):∀k,(dI m g f k).length<=4*k
 |0=>by simp[dI]
 |k+1=>by
  have:=Rh m g f k
  simp only[dI];split
  ·omega
  ·rw[zG];simp;omega
def rQ(m:List Int)(f:Int->Int)(c j:Nat):List Int:=(List.range j).map fun i=>f (m.getD (4*c+i) 0)
theorem y4b(m:List Int)(f:Int->Int)(c j:Nat):rQ m f c (j+1)=rQ m f c j++[f (m.getD (4*c+j) 0)]:=by simp[rQ,List.range_succ]
theorem y7s(m:List Int)(f:Int->Int)(c j:Nat):(rQ m f c j).length=j:=by simp[rQ]
def Dm(l:List Int):AV:=if l.length=0 then .nils else .sl 1 20 0 l.length
def Dl(l:List Int):Hp:=if l.length=0 then [] else [(20,.cells 3 (.ints l))]
theorem CC:Dm []= .nils/\Dl []=[]:=⟨rfl,rfl⟩
theorem zc{l:List Int}(h:0<l.length):Dm l= .sl 1 20 0 l.length/\Dl l=[(20,.cells 3 (.ints l))]:=by
 unfold Dm Dl;rw[zL (by omega),zL (by omega)];exact⟨rfl,rfl⟩
def JG(l:List Int):AV:=if l.length=0 then .nils else .sl 1 3 0 l.length
def JF(l:List Int):Hp:=if l.length=0 then [] else [(3,.cells 3 (.ints l))]
theorem Vb:JG []= .nils/\JF []=[]:=⟨rfl,rfl⟩
theorem Lh{l:List Int}(h:0<l.length):JG l= .sl 1 3 0 l.length/\JF l=[(3,.cells 3 (.ints l))]:=by
 unfold JG JF;rw[zL (by omega),zL (by omega)];exact⟨rfl,rfl⟩
theorem Rg(s m:List Int)(g:Nat->Bool)(f:Int->Int):∀k,(dI m g f k).length=4*(fC s g k).length
 |0=>rfl
 |k+1=>by
  have:=Rg s m g f k
  simp only[dI,fC]
  split
  ·exact this
  ·simp only[zG,zH,zzC];omega
theorem Yb(s m:List Int)(L:Int)(gl:List Int)(g:Nat->Bool)(hg:∀c,c<s.length->g c=decide ((c:Int)∈gl))(WL:gl.length<=10)(hs:s.length<=70)(hm:m.length=4*s.length)(hr:∀x,x<m.length->0<=m.getD x 0/\m.getD x 0<1000):
  nD Tryz.prog 45 [roI s,roI m,I L,roI gl] (.agg [JG (fC s g s.length),Dm (dI m g (bY gl) s.length),I L]) (Dl (dI m g (bY gl) s.length)++JF (fC s g s.length)):=by
 refine nD.intro [.cell 8 24] Tryz.func45 rfl rfl (by decide) (by simp[Tryz.ntmps45]) ?_;rw[Tryz.ntmps45]
 repeat' (first|omega|(try apply ah);simp only[go_sem]|apply ag<;>(intro h_;(try simp only[h_]);revert h_)|apply zO|with_reducible intro h_|trivial)
 refine dr.intro (fun n fr H=>∃(c:Nat) (X Y:AV) (G:Hp),c<=s.length/\n=s.length-c/\((fC s g c=[]/\X= .nils/\dI m g (bY gl) c=[]/\Y= .nils/\G=[])\/(X= .sl 1 3 0 (fC s g c).length/\Y= .sl 1 20 0 (dI m g (bY gl) c).length/\0<(fC s g c).length/\0<(dI m g (bY gl) c).length/\G=[(20,.cells 3 (.ints (dI m g (bY gl) c))),(3,.cells 3 (.ints (fC s g c)))]))/\
  fr=[(18,I c),(17,I s.length),(16,roI s),(9,.ptr 1 0),(8,.ptr 0 0),(1,roI m),(3,roI gl)]/\H=G++[(1,.cells 24 (.lst [X,Y,I L])),(0,.cells 24 (.lst [.nils,.nils,I 0]))]) ?_ ?_
 ·refine⟨_,_,_,?_,0,.nils,.nils,[],by omega,rfl,.inl ⟨rfl,rfl,rfl,rfl,rfl⟩,rfl,rfl⟩;refine Wk.sub ?_ ?_<;>simp only[go_sem]
 rintro n fr H ⟨c,X,Y,G,hc,rfl,iS,rfl,rfl⟩;by_cases cW:c<s.length
 ·have bc:decide ((c:Int)<s.length)=true:=by simp;omega
  have hC:=YV gl c (by omega);rw[<-hg c cW]at hC;have hSl:=Ri s g c;have hMl:=Rh m g (bY gl) c;cases hgc:g c with
  |true=>
   rw[hgc]at hC;have eS:fC s g (c+1)=fC s g c:=by simp only[fC];rw[zM hgc]
   have eM:dI m g (bY gl) (c+1)=dI m g (bY gl) c:=by simp only[dI];rw[zM hgc]
   rcases iS with ⟨h1,rfl,h2,rfl,rfl⟩|⟨rfl,rfl,h1,h2,rfl⟩
   ·repeat' (first|omega|(try apply ah);simp only[go_sem,bc]|refine az ?_|refine aA ?_|apply ag<;>(intro h_;(try simp only[h_]);revert h_)|apply zO|with_reducible intro h_|trivial)
    refine⟨_,_,_,?_,?_,⟨c+1,.nils,.nils,[],by omega,rfl,.inl ⟨by rw[eS,h1],rfl,by rw[eM,h2],rfl,rfl⟩,rfl,rfl⟩⟩
    ·omega
    ·refine Wk.sub ?_ ?_<;>simp only[go_sem]
   ·repeat' (first|omega|(try apply ah);simp only[go_sem,bc]|refine az ?_|refine aA ?_|apply ag<;>(intro h_;(try simp only[h_]);revert h_)|apply zO|with_reducible intro h_|trivial)
    refine⟨_,_,_,?_,?_,⟨c+1,_,_,_,by omega,rfl,.inr ⟨rfl,rfl,by rw[eS];exact h1,by rw[eM];exact h2,rfl⟩,rfl,rfl⟩⟩
    ·omega
    ·rw[eS,eM];refine Wk.sub ?_ ?_<;>simp only[go_sem]
  |false=>
   rw[hgc]at hC;have eS:fC s g (c+1)=fC s g c++[s.getD c 0]:=by simp only[fC];rw[zL (by rw[hgc];simp)]
   have eM:dI m g (bY gl) (c+1)=dI m g (bY gl) c++rQ m (bY gl) c 4:=by simp only[dI];rw[zL (by rw[hgc];simp)];rfl
   generalize fC s g c=S at*;generalize dI m g (bY gl) c=M at*;have e1:(4*(c:Int)).toNat=4*c:=by omega
   have e2:(4*(c:Int)+4).toNat=4*c+4:=by omega
   have e3:4*c+4-4*c=4:=by omega
   obtain⟨R4,PK⟩:∃R4,(m.drop (4*c)).take 4=R4:=⟨_,rfl⟩;have l4:R4.length=4:=by rw[<-PK,List.length_take,List.length_drop];omega
   have g4:∀j,j<4->R4.getD j 0=m.getD (4*c+j) 0:=fun j hj=>by
    rw[<-PK,zB,zB,List.getElem?_take_of_lt hj,List.getElem?_drop]
   rcases iS with ⟨hS0,rfl,Kq,rfl,rfl⟩|⟨rfl,rfl,h1,h2,rfl⟩
   all_goals repeat' (first|omega|(try apply ah);simp only[go_sem,bc,e1,e2,e3,PK]|refine az ?_|refine aA ?_|apply ag<;>(intro h_;(try simp only[h_]);revert h_)|apply zO|with_reducible intro h_|trivial)
   all_goals
    refine dr.intro (fun n fr H=>∃j:Nat,j<=4/\n=4-j/\fr=[(40,I j),(39,I (4:Nat)),(38,.ro 1 4 (.ints R4)),(18,I c),(17,I s.length),(16,roI s),(9,.ptr 1 0),(8,.ptr 0 0),(1,roI m),(3,roI gl)]/\H=Dl (M++rQ m (bY gl) c j)++[(3,.cells 3 (.ints (S++[s.getD c 0]))),(1,.cells 24 (.lst [.sl 1 3 0 (S.length+1),Dm (M++rQ m (bY gl) c j),I L])),(0,.cells 24 (.lst [.nils,.nils,I 0]))]) ?_ ?_
    ·first
      |(refine⟨_,_,_,?_,0,by omega,rfl,rfl,rfl⟩
        rw[show rQ m (bY gl) c 0=[] from rfl,Kq,hS0,List.append_nil,CC.1,CC.2];refine Wk.sub ?_ ?_<;>simp only[go_sem]
        done)
      |(refine⟨_,_,_,?_,0,by omega,rfl,rfl,rfl⟩
        rw[show rQ m (bY gl) c 0=[] from rfl,List.append_nil,(zc h2).1,(zc h2).2];refine Wk.sub ?_ ?_<;>simp only[go_sem]
        done)
    rintro n fr H ⟨j,hj,rfl,rfl,rfl⟩;have Wx:=y7s m (bY gl) c j;by_cases hj4:j<4
    ·have bj:decide ((j:Int)<4)=true:=by rw[decide_eq_true_iff];omega
     have hx:=hr (4*c+j) (by omega);rw[<-g4 j hj4]at hx;have hF:=M8 gl (R4.getD j 0) (by omega) hx.1 (by omega);have es:=y4b m (bY gl) c j;rw[<-g4 j hj4]at es;have em:M++rQ m (bY gl) c (j+1)=(M++rQ m (bY gl) c j)++[bY gl (R4.getD j 0)]:=by rw[es,List.append_assoc]
     generalize hMj:M++rQ m (bY gl) c j=Mj at*;have hMl2:Mj.length<=1000:=by rw[<-hMj,zG,Wx];omega
     generalize hv:R4.getD j 0=v at*;have fU:0<(Mj++[bY gl v]).length:=by simp
     obtain⟨q1,q2⟩:=zc fU
     have qe:Dl (M++rQ m (bY gl) c (j+1))++[(3,.cells 3 (.ints (S++[s.getD c 0]))),(1,.cells 24 (.lst [.sl 1 3 0 (S.length+1),Dm (M++rQ m (bY gl) c (j+1)),I L])),(0,.cells 24 (.lst [.nils,.nils,I 0]))]=[(20,.cells 3 (.ints (Mj++[bY gl v])))]++[(3,.cells 3 (.ints (S++[s.getD c 0]))),(1,.cells 24 (.lst [.sl 1 3 0 (S.length+1),.sl 1 20 0 (Mj++[bY gl v]).length,I L])),(0,.cells 24 (.lst [.nils,.nils,I 0]))]:=by rw[em,q1,q2]
     by_cases h0:Mj.length=0
     ·obtain rfl:=zT h0;rw[CC.1,CC.2]
      repeat' (first|omega|(first|apply ah|refine aw Lj ?_|refine gH Li ?_|skip);simp only[go_sem,bj,hv]|refine az ?_|refine aA ?_|apply ag<;>(intro h_;(try simp only[h_]);revert h_)|apply zO|with_reducible intro h_|trivial)
      refine⟨_,_,_,?_,Wk.Bi 10 20 (fr':=[(40,I ((j+1:Nat):Int)),(39,I (4:Nat)),(38,.ro 1 4 (.ints R4)),(18,I c),(17,I s.length),(16,roI s),(9,.ptr 1 0),(8,.ptr 0 0),(1,roI m),(3,roI gl)]) (H':=[(20,.cells 3 (.ints ([]++[bY gl v])))]++[(3,.cells 3 (.ints (S++[s.getD c 0]))),(1,.cells 24 (.lst [.sl 1 3 0 (S.length+1),.sl 1 20 0 ([]++[bY gl v]).length,I L])),(0,.cells 24 (.lst [.nils,.nils,I 0]))]) (fr1:=[(40,I ((j+1:Nat):Int)),(39,I (4:Nat)),(38,.ro 1 4 (.ints R4)),(18,I c),(17,I s.length),(16,roI s),(9,.ptr 1 0),(8,.ptr 0 0),(1,roI m),(3,roI gl)]) (H1:=[(10,.cells 3 (.ints ([]++[bY gl v])))]++[(3,.cells 3 (.ints (S++[s.getD c 0]))),(1,.cells 24 (.lst [.sl 1 3 0 (S.length+1),.sl 1 10 0 ([]++[bY gl v]).length,I L])),(0,.cells 24 (.lst [.nils,.nils,I 0]))]) rfl rfl rfl rfl ?_ ?_,j+1,by omega,rfl,rfl,qe.symm⟩
      ·omega
      ·simp only[go_sem]
      ·simp only[go_sem]
     ·obtain⟨w1,w2⟩:=zc (l:=Mj) (by omega);rw[w1,w2]
      repeat' (first|omega|(first|apply ah|refine aw Lj ?_|refine gH Li ?_|skip);simp only[go_sem,bj,hv]|refine az ?_|refine aA ?_|apply ag<;>(intro h_;(try simp only[h_]);revert h_)|apply zO|with_reducible intro h_|trivial)
      refine⟨_,_,_,?_,Wk.Bi 27 20 (fr':=[(40,I ((j+1:Nat):Int)),(39,I (4:Nat)),(38,.ro 1 4 (.ints R4)),(18,I c),(17,I s.length),(16,roI s),(9,.ptr 1 0),(8,.ptr 0 0),(1,roI m),(3,roI gl)]) (H':=[(20,.cells 3 (.ints (Mj++[bY gl v])))]++[(3,.cells 3 (.ints (S++[s.getD c 0]))),(1,.cells 24 (.lst [.sl 1 3 0 (S.length+1),.sl 1 20 0 (Mj++[bY gl v]).length,I L])),(0,.cells 24 (.lst [.nils,.nils,I 0]))]) (fr1:=[(40,I ((j+1:Nat):Int)),(39,I (4:Nat)),(38,.ro 1 4 (.ints R4)),(18,I c),(17,I s.length),(16,roI s),(9,.ptr 1 0),(8,.ptr 0 0),(1,roI m),(3,roI gl)]) (H1:=[(27,.cells 3 (.ints (Mj++[bY gl v])))]++[(3,.cells 3 (.ints (S++[s.getD c 0]))),(1,.cells 24 (.lst [.sl 1 3 0 (S.length+1),.sl 1 27 0 (Mj++[bY gl v]).length,I L])),(0,.cells 24 (.lst [.nils,.nils,I 0]))]) rfl rfl rfl rfl ?_ ?_,j+1,by omega,rfl,rfl,qe.symm⟩
      ·omega
      ·simp only[go_sem,zG]
      ·simp only[go_sem,zG]
    ·obtain rfl:j=4:=by omega
     have bj:decide (((4:Nat):Int)<4)=false:=by decide
     rw[<-eM];have fU:0<(dI m g (bY gl) (c+1)).length:=by rw[eM,zG,Wx];omega
     obtain⟨q1,q2⟩:=zc fU;have lS:(S++[s.getD c 0]).length=S.length+1:=by simp
     rw[q1,q2]
     repeat' (first|omega|(first|apply ah|refine aw Lj ?_|refine gH Li ?_|skip);simp only[go_sem,bj]|refine az ?_|refine aA ?_|apply ag<;>(intro h_;(try simp only[h_]);revert h_)|apply zO|with_reducible intro h_|trivial)
     refine⟨_,_,_,?_,?_,⟨c+1,_,_,_,by omega,rfl,.inr ⟨rfl,rfl,by rw[eS,lS];omega,fU,rfl⟩,rfl,rfl⟩⟩
     ·omega
     ·rw[eS,lS];refine Wk.sub ?_ ?_<;>simp only[go_sem]
 ·obtain rfl:c=s.length:=by omega
  have bc:decide ((s.length:Int)<s.length)=false:=by simp
  rcases iS with ⟨h1,rfl,h2,rfl,rfl⟩|⟨rfl,rfl,h1,h2,rfl⟩
  ·rw[h1,h2,CC.1,CC.2,Vb.1,Vb.2]
   repeat' (first|omega|(try apply ah);simp only[go_sem,bc]|apply ag<;>(intro h_;(try simp only[h_]);revert h_)|apply zO|with_reducible intro h_|trivial)
  ·rw[(zc h2).1,(zc h2).2,(Lh h1).1,(Lh h1).2];generalize fC s g s.length=S at*;generalize dI m g (bY gl) s.length=M at*
   repeat' (first|omega|(try apply ah);simp only[go_sem,bc]|apply ag<;>(intro h_;(try simp only[h_]);revert h_)|apply zO|with_reducible intro h_|trivial)
theorem Ud(s m:List Int)(L:Int)(gl:List Int)(g:Nat->Bool)(hg:∀c,c<s.length->g c=decide ((c:Int)∈gl))(WL:gl.length<=10)(hs:s.length<=70)(hm:m.length=4*s.length)(hr:∀x,x<m.length->0<=m.getD x 0/\m.getD x 0<1000):
  xI Tryz.prog 45 [roI s,roI m,I L,roI gl] (dgA (fC s g s.length) (dI m g (bY gl) s.length) L):=by
 have h:=Yb s m L gl g hg WL hs hm hr;have hb:=Rg s m g (bY gl) s.length;by_cases h0:(fC s g s.length).length=0
 ·have e1:=zT h0;have e2:=zT (show (dI m g (bY gl) s.length).length=0 by omega);rw[e1,e2]at h⊢;exact xI.Od h
 ·have q1:=Lh (l:=fC s g s.length) (by omega);have q2:=zc (l:=dI m g (bY gl) s.length) (by omega);rw[q1.1,q1.2,q2.1,q2.2]at h;exact xI.ofD h rfl rfl rfl rfl
section
variable{P:Program}{B:Nat}{w0:js}{Mx:Nat->Prop}{N:Nat}{fr:Fr}{H:Hp}
theorem nS.of{o:Oper}{K:Fr->Hp->Prop}(hc:cvOk P o.op=true)(hq:quF P H (evA fr) o.op=none)(ha:alF P (hnew H) (evA fr) o.op=none)(hx:sG P N o fr H K):nS P N o fr H K:=by
 unfold nS;rw[hq,ha];exact⟨hc,hx⟩
theorem Oper.qh{o:Oper}{a:Act}{w w':World}{v:Value}{K:Act->World->Prop}{Q:Exit->Act->World->Prop}(h:(execOp a.eval o).run P w= .ok (.value v) w')(hk:K (a.put o.dst v) w'):o.wp P a w K Q:=by
 unfold Oper.wp;rw[h];exact hk
end
section
variable{P:Program}{N:Nat}{fr:Fr}{H:Hp}{K:Fr->Hp->Prop}{o:Oper}
theorem rF.VI{ops:Array Oper}{r:List Oper}(hc:cvOk P o.op=true)(hq:quF P H (evA fr) o.op=none)(ha:alF P (hnew H) (evA fr) o.op=none)(hx:sG P N o fr H fun fr' H'=>fO P N ops r fr' H' K):rF P N ops fr H K o r:=⟨nS.of hc hq ha hx⟩
end
section
variable{P:Program}{N:Nat}{fr:Fr}{H:Hp}{o:Oper}
theorem VR.ints{w:World}{M:Nat->Prop}{ρ:Nat->Addr}{D:Nat->Prop}(l:List Int):VR w M ρ D (.agg (l.map (Value.int .i64)).toArray) (.agg (l.map I)):=by
 refine .agg _ _ (by simp) fun i v x hv hx=>?_;simp only[zR]at hv hx;cases hq:l[i]? with
 |none=>rw[hq]at hv;cases hv
 |some n=>rw[hq]at hv hx;cases hv;cases hx;exact .int _ _
theorem Qq{α:Type}{a:Array α}(h:a.size=3):∃x0 x1 x2,a= #[x0,x1,x2]:=by
 obtain⟨l⟩:=a
 match l,h with
 |[x0,x1,x2],_=>exact⟨x0,x1,x2,rfl⟩
theorem Rf(k:IntKind)(n:Int):(Value.int k n).cells= #[.int k n]:=rfl
theorem rF.wT{ops:Array Oper}{rr:List Oper}{K:Fr->Hp->Prop}{t e:Nat}{x0 x1 x2:Operand}{a b c:Int}(ho:o.op= .build t #[(0,x0),(1,x1),(2,x2)])(hd:dok o.dst N=true)(fu:tk P t= .arr 3 e)(fJ:tsz P e=some 1)(hz:tze P t=some [I 0,I 0,I 0])
  (h0:evA fr x0=I a) (h1:evA fr x1=I b) (h2:evA fr x2=I c) (h:fO P N ops rr (fput fr o.dst (.agg [I a,I b,I c])) H K):rF P N ops fr H K o rr:=by
 refine rF.VI ?_ ?_ ?_ ?_
 ·rw[ho];rfl
 ·rw[ho];simp only[quF,yhg,fu]
 ·rw[ho];rfl
 unfold sG;rw[ho];refine⟨rfl,fun B w0 Mx w ρ ac jG Q=>?_⟩;have e0:=(h0▸jG.ev x0).aq;have e1:=(h1▸jG.ev x1).aq;have e2:=(h2▸jG.ev x2).aq;obtain⟨i,zv,i1,i2,i3⟩:=xT hz;obtain⟨z0,z1,z2,tO⟩:=Qq (a:=zv.cells) (by have:=congrArg List.length i3;simpa using this);have aU:(execOp ac.eval o).run P w= .ok (.value (.agg #[.int .i64 a,.int .i64 b,.int .i64 c])) w:=by
  simp[execOp,ho,Instr.build,zeroValue,typeInfo,i1,i2,run_underlying (tC fu),km fJ,tO,Instr.fill,e0,e1,e2,Rf]
 exact Oper.qh aU ⟨ρ,_,_,h,jG.put hd (VR.ints [a,b,c])⟩
end
section
variable{P:Program}{α β:Type}
def kD(P:Program)(s:Sem α):Prop:=(∃r,∀w,s.run P w= .ok r w)\/ ∀w r w1,s.run P w≠ .ok r w1
theorem kD.pure(x:α):kD P (Pure.pure x:Sem α):= .inl ⟨x,fun w=>by simp⟩
theorem kD.stuck(x:String):kD P (stuck x:Sem α):= .inr fun w r w1 h=>by simp[Go.stuck]at h
theorem kD.bind{s:Sem α}{f:α->Sem β}(h:kD P s)(hf:∀x,kD P (f x)):kD P (s>>=f):=by
 rcases h with ⟨r,hr⟩|hn
 ·rcases hf r with ⟨q,hq⟩|hm
  ·exact .inl ⟨q,fun w=>by rw[Sem.run_bind,hr w,Result.andThen_ok,hq w]⟩
  ·exact .inr fun w q w1 h=>by rw[Sem.run_bind,hr w,Result.andThen_ok]at h;exact hm _ _ _ h
 ·refine .inr fun w q w1 h=>?_;rw[Sem.run_bind]at h;cases hs:s.run P w with
  |ok r w2=>exact hn _ _ _ hs
  |halt x w2=>rw[hs]at h;simp at h
theorem kD.size(t:Nat):kD P (sizeOf t):=by
 cases h:P.info? t with
 |some i=>exact .inl ⟨i.size,fun w=>by simp[sizeOf,typeInfo,h]⟩
 |none=>exact .inr fun w r w1 g=>by simp[sizeOf,typeInfo,h,Go.stuck]at g
theorem kD.bound(x:Value)(y:Nat)(c:BoundsCode):kD P (Instr.sliceBound x y c):=by
 unfold Instr.sliceBound;refine .bind ?_ fun p=>?_
 ·cases x
  case int k n=>exact .pure _
  case pointer a=>cases a<;>first|exact .stuck _|exact .inr fun w r w1 g=>by simp[asIntOf,unsupported]at g
  all_goals exact .stuck _
 ·obtain⟨k,i⟩:=p;simp only
  split
  ·exact .pure _
  ·exact .inr fun w r w1 g=>by
    simp[boundsPanic,runtimePanic,goPanic]at g
    split at g<;>(try split at g)<;>cases g
theorem kD.bounds(b:Bool)(len cap:Nat)(lo hi mx:Option Value):kD P (Instr.sliceBounds b len cap lo hi mx):=by
 unfold Instr.sliceBounds;cases lo<;>cases hi<;>cases mx<;>dsimp only
 all_goals repeat (first|exact .pure _|exact .bound _ _ _|exact .stuck _|refine .bind ?_ fun _=>?_)
theorem kD.vz{s s':Sem α}(h:∀w,s.run P w=s'.run P w)(hs:kD P s'):kD P s:=by
 rcases hs with ⟨r,hr⟩|hn
 ·exact .inl ⟨r,fun w=>by rw[h,hr]⟩
 ·exact .inr fun w r w1 g=>hn w r w1 (by rw[<-h];exact g)
theorem kD.slice{t:Nat}{e:Nat}(h:tk P t= .slice e)(x:Value)(lo hi mx:Option Value):kD P (Instr.sliceAt t x lo hi mx):=by
 refine .vz (fun w=>E3 (kl h) (by simp) x lo hi mx) ?_;cases x
 case slice a len cap=>
  refine .vz (s':=do
   let (l,h,m)<-Instr.sliceBounds true len cap lo hi mx
   let size<-sizeOf e
   Pure.pure (Value.slice (if m=l then a else a.map (·.add (l*size))) (h-l) (m-l))) (fun w=>?_) (.bind (.bounds _ _ _ _ _ _) fun _=> .bind (.size _) fun _=> .pure _)
  simp[Instr.slice,run_underlying (kl h)]
 all_goals exact .inr fun w r w1 g=>by simp[Instr.slice,run_underlying (kl h),Go.stuck]at g
def CA(P:Program):Op->Bool
 |.move _|.assign _=>true
 |.slice t _ _ _ none=>match tk P t with
  |.slice _=>true
  |_=>false
 |_=>false
theorem Um{o:Oper}(h:CA P o.op=true)(ev:Operand->Value):kD P (execOp ev o):=by
 cases ho:o.op with
 |move x=>simp only[execOp,ho];exact .pure _
 |assign x=>simp only[execOp,ho];exact .pure _
 |slice t x lo hi mx=>
  rw[ho]at h;cases mx with
  |some _=>cases h
  |none=>
   simp only[CA]at h
   split at h
   ·rename_i e hk
    simp only[execOp,ho];exact .bind (.slice hk _ _ _ _) fun _=> .pure _
   ·cases h
 |_=>rw[ho]at h;cases h
theorem TV{o:Oper}(h:CA P o.op=true){N:Nat}{fr:Fr}{H:Hp}{K:Fr->Hp->Prop}(hq:nS P N o fr H K):∃p r,quF P H (evA fr) o.op=some (p,r)/\p/\dok o.dst N=true/\K (fput fr o.dst r) H:=by
 obtain⟨_,hq⟩:=hq
 split at hq
 ·rename_i p r e;exact⟨p,r,e,hq⟩
 ·rename_i e
  exfalso;cases ho:o.op with
  |move x=>rw[ho]at e;simp[quF,opF]at e
  |assign x=>rw[ho]at e;simp[quF,opF]at e
  |slice t x lo hi mx=>
   simp only[ho,alF,sG,vn]at hq;exact zzA hq.1 (by decide)
  |_=>rw[ho]at h;cases h
end
def Hi(P:Program)(ops:Array Oper)(listed:Array Bool):List (Nat×Tr)->Bool
 |[(i,_)]=>Region.free .any ops listed i&&(Region.ready .any ops listed).contains i&&(match ops[i]? with|some o=>o.guard.isNone&&CA P o.op|none=>false)
 |_=>false
mutual
def ra(P:Program)(ops:Array Oper)(listed:Array Bool):Nat->Tr->Bool
 |0,.done=>(Region.ready .any ops listed).isEmpty
 |f+1,.node l=>(Hi P ops listed l||(!(Region.ready .any ops listed).isEmpty&&(Region.ready .any ops listed==l.map (·.1))))&&HI P ops listed f l
 |_,_=>false
def HI(P:Program)(ops:Array Oper)(listed:Array Bool)(f:Nat):List (Nat×Tr)->Bool
 |[]=>true
 |(i,t)::r=>ra P ops (listed.setIfInBounds i true) f t&&HI P ops listed f r
end
theorem MY{P:Program}{ops:Array Oper}{listed:Array Bool}{f:Nat}:∀(l:List (Nat×Tr)),HI P ops listed f l=true->∀q∈l,ra P ops (listed.setIfInBounds q.1 true) f q.2=true
 |[],_,q,hq=>by cases hq
 |(i,t)::r,h,q,hq=>by
  simp only[HI,zV]at h;rcases zzD.1 hq with e|e
  ·subst e;exact h.1
  ·exact MY r h.2 q e
theorem y0y{P:Program}{N:Nat}{ops:Array Oper}{B:Nat}{w0:js}{Mx:Nat->Prop}{K:Fr->Hp->Prop}(da:Region.noSelect ops=true)(Q:Exit->Act->World->Prop)(hP:∀c a w,¬Q (.panic c) a w)(hQ:∀a' w' ρ' fr' H',K fr' H'->aO B w0 Mx N w' ρ' fr' H' a'->Q .normal a' w'):∀(f:Nat) (t:Tr) (listed:Array Bool) (w:World) (ρ:Nat->Addr) (fr:Fr) (H:Hp) (a:Act),ra P ops listed f t=true->awT P N ops t fr H K->aO B w0 Mx N w ρ fr H a->wpAny P .any ops Q f listed a w:=by
 intro f
 induction f with
 |zero=>
  intro t listed w ρ fr H a hc h hs;cases t with
  |done=>
   simp only[ra,List.isEmpty_iff]at hc;simp only[awT]at h;exact⟨hc,hQ _ _ ρ _ _ h hs⟩
  |node l=>simp[ra]at hc
 |succ f ih=>
  intro t listed w ρ fr H a hc h hs;cases t with
  |done=>simp[ra]at hc
  |node l=>
   simp only[ra,zV,Bool.or_eq_true]at hc;obtain⟨eG,wC⟩:=hc;simp only[awT]at h;rcases eG with eG|eG
   ·unfold Hi at eG
    split at eG
    ·rename_i i t'
     simp only[zV]at eG;obtain⟨⟨hf,hr⟩,ho⟩:=eG;cases hoi:ops[i]? with
     |none=>rw[hoi]at ho;cases ho
     |some o=>
      rw[hoi]at ho;simp only[zV,Option.isNone_iff_eq_none]at ho;have h1:=CT _ h (i,t') (zP.2 rfl);have h2:=MY _ wC (i,t') (zP.2 rfl);simp only[hoi,Option.toList_some,fO,ho.1]at h1;obtain⟨p,r,hq,hp,hd,hk⟩:=TV ho.2 h1;obtain⟨v,aU,hv⟩:=C9 (P:=P) (o:=o) (a:=a) hs.objs hs.ev (fun s d x e=>by rw[e]at ho;cases ho.2) hq hp
      have hw:Region.wanted o (yielded ops a.tmps)=true:=by simp[Region.wanted,ho.1]
      have hy:Yields P ops o v a:= .inl ⟨hw,fun w'=>by
       rcases Um ho.2 a.eval with ⟨r',ik⟩|hn
       ·have:=ik w;rw[aU]at this;cases this;exact ik w'
       ·exact zzA aU (hn _ _ _)⟩
      exact wpAny_take hoi da hf hr (fun c a w h=>zzA h (hP c _ _)) hy (ih t' _ w ρ _ _ _ h2 hk (hs.put hd hv))
    ·cases eG
   ·simp only[zV,Bool.not_eq_true',beq_iff_eq]at eG;refine⟨fun iG=>by rw[iG]at eG;simp at eG,fun i hi=>?_⟩;rw[eG.2]at hi;obtain⟨q,hq,rfl⟩:=zzE.1 hi;have h1:=CT l h q hq;have h2:=MY l wC q hq;have hr:q.1∈Region.ready .any ops listed:=by rw[eG.2];exact List.mem_map_of_mem hq
    obtain⟨_,o,g2,_⟩:=mem_ready.1 hr;rw[g2]at h1;exact Jo g2 h1 hs _ _ fun a' w' ρ' fr' H' hk a7=>ih q.2 _ w' ρ' fr' H' a' h2 hk a7
def KP(Q:Act->World->Prop):Exit->Act->World->Prop
 |.normal,a,w=>Q a w
 |_,_,_=>False
theorem a8.cT{P:Program}{N:Nat}{ops:Array Oper}{id:Nat}{fr:Fr}{H:Hp}{Q:Exit->Fr->Hp->Prop}(t:Tr)(cC:(ra P ops (Array.replicate ops.size false) ops.size t&&Region.noSelect ops)=true)(hm:P.follows .mixedOrders=true)
  (h:awT P N ops t fr H (Q .normal)):a8 P N id ops fr H Q:=by
 simp only[zV]at cC;refine⟨fun B w0 Mx w ρ a hs=>wp_mono (wp_region_any (Q:=KP fun a' w'=>∃ρ' fr' H',Q .normal fr' H'/\aO B w0 Mx N w' ρ' fr' H' a') hm (y0y cC.2 _ (fun _ _ _ h=>h) (fun _ _ ρ' fr' H' hk a7=>⟨ρ',fr',H',hk,a7⟩) ops.size t _ _ ρ fr H a cC.1 h hs.draw)) fun e a' w' h=>?_⟩;cases e<;>first|exact h|exact h.elim
theorem a8.cut{P:Program}{N:Nat}{ops:Array Oper}{id:Nat}{fr:Fr}{H:Hp}{y:Code}{Q:Exit->Fr->Hp->Prop}(fr1:Fr)(H1:Hp)(h1:a8 P N id ops fr H fun e fr' H'=>e= .normal/\Wk fr' H' fr1 H1)(h2:oG P N y fr1 H1 Q):a8 P N id ops fr H (yfx Q fun fr' H'=>oG P N y fr' H' Q):=
 ⟨fun B w0 Mx w ρ a hs=>wp_mono (h1.out B w0 Mx w ρ a hs) (by
  rintro e a' w' ⟨ρ',fr',H',⟨rfl,hw⟩,a7⟩;obtain⟨ρ2,jI⟩:=hw _ _ _ _ _ _ _ a7;exact⟨ρ2,fr1,H1,h2,jI⟩)⟩
theorem a8.yX{P:Program}{N:Nat}{ops:Array Oper}{id:Nat}{fr:Fr}{H:Hp}{Q:Exit->Fr->Hp->Prop}(fr1:Fr)(H1:Hp)(h1:a8 P N id ops fr H fun e fr' H'=>e= .normal/\Wk fr' H' fr1 H1)(h2:Q .normal fr1 H1):a8 P N id ops fr H Q:=
 ⟨fun B w0 Mx w ρ a hs=>wp_mono (h1.out B w0 Mx w ρ a hs) (by
  rintro e a' w' ⟨ρ',fr',H',⟨rfl,hw⟩,a7⟩;obtain⟨ρ2,jI⟩:=hw _ _ _ _ _ _ _ a7;exact⟨ρ2,fr1,H1,h2,jI⟩)⟩
def Cz(P:Program)(N:Nat)(c:Code)(Q:Exit->Fr->Hp->Prop)(Inv:Nat->Fr->Hp->Prop):Prop:=∀fr H,(∃n fr0 H0,Wk fr H fr0 H0/\Inv n fr0 H0)->dr P N c fr H Q
theorem Cz.of{P:Program}{N:Nat}{c:Code}{Q:Exit->Fr->Hp->Prop}{Inv:Nat->Fr->Hp->Prop}(hr:∀n fr H,Inv n fr H->oG P N c fr H (yfx Q fun fr' H'=>∃m fr1 H1,m<n/\Wk fr' H' fr1 H1/\Inv m fr1 H1)):Cz P N c Q Inv:=fun fr H h0=>dr.intro Inv h0 hr
theorem Cz.share{P:Program}{N:Nat}{c:Code}{Q:Exit->Fr->Hp->Prop}(Inv:Nat->Fr->Hp->Prop){G:Prop}(h1:Cz P N c Q Inv->G)(h2:∀n fr H,Inv n fr H->oG P N c fr H (yfx Q fun fr' H'=>∃m fr1 H1,m<n/\Wk fr' H' fr1 H1/\Inv m fr1 H1)):G:=h1 (Cz.of h2)
end Go.Proofs.YthohfoombimbeaaGreatDoor
