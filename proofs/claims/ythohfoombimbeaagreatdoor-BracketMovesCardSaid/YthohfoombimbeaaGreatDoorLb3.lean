import Derived.Test.YthohfoombimbeaaGreatDoorMw16
namespace Go.Proofs.YthohfoombimbeaaGreatDoor
open Go Go.RowKit
set_option maxRecDepth 99999
set_option maxHeartbeats 8000000
set_option linter.unusedVariables false
set_option linter.unusedSimpArgs false
def U9:fc:=[(14,[[58,59,60,61,62,63],[57,59,60,61],[57,58],[57,58],[57,58],[57],[57],[],[]],[[],[0],[0,1],[0,1],[0,1],[0],[0],[],[]]),(16,[[68,69,70,71,72,73,74,75,76,77],[67,69,70,71,72,73,74,75],[67,68,71,72],[67,68,71,72],[67,68,69,70],[67,68,69,70],[67,68],[67,68],[67,68],[67],[67],[],[]],[[],[0],[0,1],[0,1],[0,1,2,3],[0,1,2,3],[0,1],[0,1],[0,1],[0],[0],[],[]])]
def U8:wV:=[(14,.node [(0,.node [(1,trD [2,3,4,5,6,7,8]),(2,.node [(1,trD [3,4,5,6,7,8]),(3,.node [(1,trD [4,5,6,7,8]),(4,trD [1,5,6,7,8])])])]),(1,.node [(0,trD [2,3,4,5,6,7,8]),(2,.node [(0,trD [3,4,5,6,7,8]),(3,.node [(0,trD [4,5,6,7,8]),(4,.node [(0,trD [5,6,7,8]),(5,.node [(0,trD [6,7,8]),(6,trD [0,7,8])])])])])]),(2,.node [(0,.node [(1,trD [3,4,5,6,7,8]),(3,.node [(1,trD [4,5,6,7,8]),(4,trD [1,5,6,7,8])])]),(1,.node [(0,trD [3,4,5,6,7,8]),(3,.node [(0,trD [4,5,6,7,8]),(4,.node [(0,trD [5,6,7,8]),(5,.node [(0,trD [6,7,8]),(6,trD [0,7,8])])])])]),(3,.node [(0,.node [(1,trD [4,5,6,7,8]),(4,trD [1,5,6,7,8])]),(1,.node [(0,trD [4,5,6,7,8]),(4,.node [(0,trD [5,6,7,8]),(5,.node [(0,trD [6,7,8]),(6,trD [0,7,8])])])]),(4,.node [(0,trD [1,5,6,7,8]),(1,.node [(0,trD [5,6,7,8]),(5,.node [(0,trD [6,7,8]),(6,trD [0,7,8])])])])])])])]
theorem RA{m m':List Int}{n n' L L':Nat}{w:Int}(hp:jo m n)(mE:jo m' n')(h1:n<=9/\L<=20)(h2:n'<=9/\L'<=20)(hw:w=1\/w= -1)(h:∀e,dF m' n' L' 1 e= -dF m n L 1 (e-3*w)):
  ∃r,Fn Tryz.prog 9 [plA false (pD m n L),I (3*w)] (plA false r)/\Fn Tryz.prog 10 [plA false r] (plA false (pD m' n' L')):=by
 have hP:fe (pD m n L) (dF m n L 1):=CY fun e he=>xa hp h1.1 h1.2 (by omega) he;have hQ:fe (pD m' n' L') (dF m' n' L' 1):=CY fun e he=>xa mE h2.1 h2.2 (by omega) he;obtain⟨a1,hS⟩:=y4a (3*w) (by omega) hP fun e he=>xa hp h1.1 h1.2 (by omega) he;obtain⟨q,b1,hN⟩:=ZD a1 (fun e he=>by have:=ZE hp h1.1 h1.2 he;omega) fun e=>by have:=IQ hp h1.1 h1.2 (j:=1) (by omega) (e-3*w);omega
 obtain rfl:q=pD m' n' L':=dA.ext b1.asc hQ.asc fun e=>by rw[b1.cf,hQ.cf,h]
 exact⟨_,hS,hN⟩
theorem yof(s m:List Int)(L k x y g:Int)(ov:Bool):Fn Tryz.prog 3 [dgA s m L,ei k x y g ov] (.bool true):=by
 have hA:=Yd;have hG:=Yc s m L;cases hg:HJ s m L with
 |true=>
  rw[hg]at hG;refine Fn.intro [.tmp 4] Tryz.func3 rfl rfl (by decide) (by simp[Tryz.ntmps3]) ?_;rw[Tryz.ntmps3]
  repeat' (first|omega|(try apply ah);simp only[go_sem,hA]|refine az ?_|refine aA ?_|apply ag<;>(intro h_;(try simp only[h_]);revert h_)|apply zO|with_reducible intro h_|trivial)
 |false=>
 rw[hg]at hG;by_cases h7:7<s.length
 ·have b7:decide ((7:Int)<s.length)=true:=by rw[decide_eq_true_iff];omega
  refine Fn.intro [.tmp 4] Tryz.func3 rfl rfl (by decide) (by simp[Tryz.ntmps3]) ?_;rw[Tryz.ntmps3]
  repeat' (first|omega|(try apply ah);simp only[go_sem,b7]|refine az ?_|refine aA ?_|apply ag<;>(intro h_;(try simp only[h_]);revert h_)|apply zO|with_reducible intro h_|trivial)
 have b7:decide ((7:Int)<s.length)=false:=by rw[decide_eq_false_iff_not];omega
 obtain⟨r,inv,e,hF,hr,⟨k',x',y',g',b',rfl⟩,hM⟩:=y4j s m L k x y g ov;by_cases e0:e=0
 rotate_left
 ·have be:(e !=0)=true:=by simpa using e0
  obtain rfl:=hr e0;refine Fn.intro [.tmp 4] Tryz.func3 rfl rfl (by decide) (by simp[Tryz.ntmps3]) ?_;rw[Tryz.ntmps3]
  repeat' (first|omega|(try apply ah);simp only[go_sem,b7,be]|refine az ?_|refine aA ?_|apply ag<;>(intro h_;(try simp only[h_]);revert h_)|apply zO|with_reducible intro h_|trivial)
 subst e0;obtain⟨hv,s',m',L',kn,sg,rfl,Kc,hm,nq,iE⟩:=hM rfl;clear hM hr;have v1:=gP hv;have wc:=v1.l0;have Wr:=Hs.yh hv hm;have BG:=Hs.yg hm;have hlen:=Hs.yi hm;have kO:=Hs.oi hv hm;have hl0':=(gP kO).l0;simp only[HJ,Bool.or_eq_false_iff,Bool.and_eq_false_iff,decide_eq_false_iff_not]at hg;obtain⟨Ln,rfl⟩:∃l:Nat,L=l:=⟨L.toNat,by omega⟩
 obtain⟨Lm,rfl⟩:∃l:Nat,L'=l:=⟨L'.toNat,by omega⟩;have DC:s'.length<=9:=by omega
 have h0:¬(s.length=0/\Ln=0):=by omega
 have PY:¬(s'.length=0/\Lm=0):=by omega
 by_cases hL:(20:Int)<Ln
 ·have hB:=Un s m Ln hv (fun h=>h0 ⟨h.1,by omega⟩) (.inr hL);obtain⟨p,e,hB'⟩:∃p e,Fn Tryz.prog 7 [dgA s' m' Lm] (.tup [plA false p,I e]):=by
   by_cases h:(20:Int)<Lm
   ·exact⟨_,_,Un s' m' Lm kO (fun h=>PY ⟨h.1,by omega⟩) (.inr h)⟩
   ·exact⟨_,_,EX s' m' Lm kO PY DC (by omega)⟩
  clear hm nq iE hlen;refine Fn.intro [.tmp 4] Tryz.func3 rfl rfl (by decide) (by simp[Tryz.ntmps3]) ?_;rw[Tryz.ntmps3]
  repeat' (first|omega|(try apply ah);simp only[go_sem,b7]|refine az ?_|refine aA ?_|apply ag<;>(intro h_;(try simp only[h_]);revert h_)|apply zO|with_reducible intro h_|trivial)
 have hL10:Ln<=10:=by omega
 have hLm:Lm<=12:=by omega
 have hB:=EX s m Ln hv h0 (by omega) (by omega);have hB':=EX s' m' Lm kO PY DC (by omega);have hp:=x8 hv;have mE:=x8 kO;have hP:fe (pD m s.length Ln) (dF m s.length Ln 1):=CY fun e he=>xa hp (by omega) (by omega) (by omega) he;have hQ:fe (pD m' s'.length Lm) (dF m' s'.length Lm 1):=CY fun e he=>xa mE DC (by omega) (by omega) he
 have hPl:=hP.len fun e he=>xa hp (by omega) (by omega) (j:=1) (by omega) he;have hQl:=hQ.len fun e he=>xa mE DC (by omega) (j:=1) (by omega) he;have qE:=SJ (pD m s.length Ln) (by omega);have qE':=SJ (pD m' s'.length Lm) (by omega);have DP:=Hs.Bp hv hm;by_cases k1:kn=1
 ·obtain rfl:=nq k1;have hw:sg=1\/sg= -1:=by subst k1;exact Hs.Bo hm
  obtain⟨r,hS,hN⟩:=RA hp mE ⟨by omega,by omega⟩ ⟨DC,by omega⟩ hw fun e=>(DP e).1 k1;have bk:(k==1)=true:=by rw[beq_iff_eq];omega
  have w3:IntKind.i64.wrap (3*sg)=3*sg:=IntWalk.i64_in _ (by omega);clear hm iE hlen DP hP hQ nq;generalize pD m s.length Ln=p at*;generalize pD m' s'.length Lm=q at*;refine Fn.intro [.tmp 4] Tryz.func3 rfl rfl (by decide) (by simp[Tryz.ntmps3]) ?_;rw[Tryz.ntmps3]
  repeat' (first|omega|(try apply ah);simp only[go_sem,b7,bk,w3]|refine az ?_|refine aA ?_|apply ag<;>(intro h_;(try simp only[h_]);revert h_)|apply zO|with_reducible intro h_|trivial)
  repeat' (first|omega|(first|apply ah|refine aw U9 ?_|refine gH U8 ?_|skip);simp only[go_sem,b7,bk,w3]|refine az ?_|refine aA ?_|apply ag<;>(intro h_;(try simp only[h_]);revert h_)|apply zO|with_reducible intro h_|trivial)
 have Ql:(k==1)=false:=by rw[zX];omega
 by_cases k2:kn=2
 ·obtain⟨x0,xn,se⟩:=iE k2;obtain⟨c,rfl⟩:∃c:Nat,x=c:=⟨x.toNat,by omega⟩;rw[zD]at se;have hw:sg=1\/sg= -1:=by rw[se];exact v1.sg c (by omega)
  obtain⟨r,hS,hN⟩:=RA mE hp ⟨DC,by omega⟩ ⟨by omega,by omega⟩ hw fun e=>(DP e).2.1 k2;have bk:(k==2)=true:=by rw[beq_iff_eq];omega
  have w3:IntKind.i64.wrap (3*sg)=3*sg:=IntWalk.i64_in _ (by omega);have tY:decide (0<=(c:Int))=true:=by simp
  have oz:decide ((c:Int)<s.length)=true:=by rw[decide_eq_true_iff];omega
  have cW:c<s.length:=by omega
  have Gb:=se.symm;clear hm iE hlen DP hP hQ nq se;generalize pD m s.length Ln=p at*;generalize pD m' s'.length Lm=q at*;refine Fn.intro [.tmp 4] Tryz.func3 rfl rfl (by decide) (by simp[Tryz.ntmps3]) ?_;rw[Tryz.ntmps3]
  repeat' (first|omega|(try apply ah);simp only[go_sem,b7,Ql,bk,w3,Gb,tY,oz]|refine az ?_|refine aA ?_|apply ag<;>(intro h_;(try simp only[h_]);revert h_)|apply zO|with_reducible intro h_|trivial)
  repeat' (first|omega|(first|apply ah|refine aw U9 ?_|refine gH U8 ?_|skip);simp only[go_sem,b7,Ql,bk,w3,Gb,tY,oz]|refine az ?_|refine aA ?_|apply ag<;>(intro h_;(try simp only[h_]);revert h_)|apply zO|with_reducible intro h_|trivial)
 have bk2:(k==2)=false:=by rw[zX];omega
 have Xb:pD m s.length Ln=pD m' s'.length Lm:=dA.ext hP.asc hQ.asc fun e=>by rw[hP.cf,hQ.cf,(DP e).2.2 k1 k2]
 rw[Xb]at hB;clear hm iE hlen DP hP hQ nq qE hPl Xb;generalize pD m' s'.length Lm=q at*;refine Fn.intro [.tmp 4] Tryz.func3 rfl rfl (by decide) (by simp[Tryz.ntmps3]) ?_;rw[Tryz.ntmps3]
 repeat' (first|omega|(try apply ah);simp only[go_sem,b7,Ql,bk2]|refine az ?_|refine aA ?_|apply ag<;>(intro h_;(try simp only[h_]);revert h_)|apply zO|with_reducible intro h_|trivial)
end Go.Proofs.YthohfoombimbeaaGreatDoor
