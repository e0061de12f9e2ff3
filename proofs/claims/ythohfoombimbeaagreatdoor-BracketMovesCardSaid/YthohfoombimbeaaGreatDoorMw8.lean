/- Layer 8: pushed. -/
import Derived.Test.YthohfoombimbeaaGreatDoorZj
namespace Go.Proofs.YthohfoombimbeaaGreatDoor
open Go Go.RowKit
set_option maxRecDepth 99999
set_option maxHeartbeats 8000000
set_option linter.unusedVariables false
set_option linter.unusedSimpArgs false
def Vl:fc:=[(1,[[7,10,11,12,13,14],[7,10,11,12,13,14],[5,6,10,11,12,13,14],[10,11,12,13,14],[10,11,12,13,14],[5,6,7,8,9,12,13],[5,6,7,8,9,12,13],[5,6,7,8,9,10,11],[5,6,7,8,9,10,11],[5,6,7,8,9],[],[]],[[],[],[0,1],[],[],[0,1,2,3,4],[0,1,2,3,4],[0,1,2,3,4,5,6],[0,1,2,3,4,5,6],[0,1,2,3,4],[],[]])]
def nh:fc:=[(4,[[22,23,24,27,28,29],[22,23,24,27,28,29],[20,21,27,28,29],[20,21,27,28,29],[20,21,27,28,29],[27,28,29],[27,28,29],[20,21,22,23,24,25,26],[20,21,22,23,24,25,26],[20,21,22,23,24,25,26],[],[]],[[],[],[0,1],[0,1],[0,1],[],[],[0,1,2,3,4,5,6],[0,1,2,3,4,5,6],[0,1,2,3,4,5,6],[],[]]),(5,[[33,34,35,38,39,40],[33,34,35,38,39,40],[31,32,38,39,40],[31,32,38,39,40],[31,32,38,39,40],[38,39,40],[38,39,40],[31,32,33,34,35,36,37],[31,32,33,34,35,36,37],[31,32,33,34,35,36,37],[],[]],[[],[],[0,1],[0,1],[0,1],[],[],[0,1,2,3,4,5,6],[0,1,2,3,4,5,6],[0,1,2,3,4,5,6],[],[]]),(6,[[43,44,45,47,48,49,50],[42,47,48,49,50],[42,47,48,49,50],[42,47,48,49,50],[47,48,49,50],[42,43,44,45,46,48,49,50,52],[42,43,44,45,46,47,52],[42,43,44,45,46,47,52],[42,43,44,45,46,47,52],[52],[47,48,49,50,51],[],[],[]],[[],[0],[0],[0],[],[0,1,2,3,4],[0,1,2,3,4,5],[0,1,2,3,4,5],[0,1,2,3,4,5],[],[5,6,7,8,9],[],[],[]]),(7,[[56,57,58,61,62,63],[56,57,58,61,62,63],[54,55,61,62,63],[54,55,61,62,63],[54,55,61,62,63],[61,62,63],[61,62,63],[54,55,56,57,58,59,60],[54,55,56,57,58,59,60],[54,55,56,57,58,59,60],[]],[[],[],[0,1],[0,1],[0,1],[],[],[0,1,2,3,4,5,6],[0,1,2,3,4,5,6],[0,1,2,3,4,5,6],[]]),(9,[[73,74,75,78,79,80],[73,74,75,78,79,80],[71,72,78,79,80],[71,72,78,79,80],[71,72,78,79,80],[78,79,80],[78,79,80],[71,72,73,74,75,76,77],[71,72,73,74,75,76,77],[71,72,73,74,75,76,77],[]],[[],[],[0,1],[0,1],[0,1],[],[],[0,1,2,3,4,5,6],[0,1,2,3,4,5,6],[0,1,2,3,4,5,6],[]])]
theorem Uc(s m:List Int)(L:Int)(h:Nat)(hh:h<4*s.length)(hs:s.length<=64):Fn Tryz.prog 84 [I h,.rp (dgC s m L) 0] (I (if aB s (h:Int) then-2 else-1)):=by
 have hO:=Eo s m L h (by omega) (by omega);cases ho:aB s (h:Int)
 all_goals
  rw[ho]at hO;refine Fn.intro [.tmp 3] Tryz.func84 rfl rfl (by decide) (by simp[Tryz.ntmps84]) ?_;rw[Tryz.ntmps84]
  repeat' (first|omega|(try apply ah);simp only[go_sem,hO]|refine az ?_|refine aA ?_|apply ag<;>(intro h_;(try simp only[h_]);revert h_)|apply zO|with_reducible intro h_|trivial)
theorem Ub(s m:List Int)(L k x y g:Int)(ov:Bool)(h:Nat)(hh:h<m.length)(p0:0<=m.getD h 0)(p1:m.getD h 0<=1000)(hl:m.length<=1000):Fn Tryz.prog 85 [I h,.rp (dgC s m L) 0,.rp (.lst [I k,I x,I y,I g,.bool ov]) 0] (I (bY [x,y] (m.getD h 0))):=by
 have hS:=M8 [x,y] (m.getD h 0) (by simp) p0 (by omega);generalize hv:m.getD h 0=v at*;refine Fn.intro [.tmp 4] Tryz.func85 rfl rfl (by decide) (by simp[Tryz.ntmps85]) ?_;rw[Tryz.ntmps85]
 repeat' (first|omega|(first|apply ah|refine aw Vl ?_|skip);simp only[go_sem,zA,hv]|refine az ?_|refine aA ?_|apply ag<;>(intro h_;(try simp only[h_]);revert h_)|apply zO|with_reducible intro h_|trivial)
 refine⟨dd.flat rfl (by simp only[go_sem]) (by simp only[go_sem];try rfl) hS rfl ?_⟩
 repeat' (first|omega|(first|apply ah|refine aw Vl ?_|skip);simp only[go_sem,zA,hv]|refine az ?_|refine aA ?_|apply ag<;>(intro h_;(try simp only[h_]);revert h_)|apply zO|with_reducible intro h_|trivial)
theorem y02(s m:List Int)(L k g:Int)(ov:Bool)(lo hi p1 p2 q1 q2:Nat)(hv:bG s m L=true)(h1:p1<4*s.length)(h2:p2<4*s.length)(h3:q1<4*s.length)(h4:q2<4*s.length)(sr:lo<s.length)(gJ:hi<s.length):
  ∃(x y z:Int) (b:Bool),Fn Tryz.prog 55 [dgA s m L,Ag p1 p2 q1 q2,ei k lo hi g ov] (ei 3 x y z b):=by
 have v1:=gP hv;have fM:=v1.s64;have dw:=v1.len;have hd:=(Sp.aE hv).1;have o1:=Hs.aG h1;have o2:=Hs.aG h2;have o3:=Hs.aG h3;have o4:=Hs.aG h4;unfold Ag;generalize Sp.af p1=i1 at*;generalize Sp.af p2=i2 at*;generalize Sp.af q1=j1 at*;generalize Sp.af q2=j2 at*
 have mt:∀z:Nat,z<4*s.length->∃w:Nat,m.getD z 0=(w:Int)/\w<4*s.length:=fun z hz=>⟨Sp.ae m z,(hd.cast hz).symm,hd.aW.lt z hz⟩;obtain⟨a1,e1,b1⟩:=mt i1 o1;obtain⟨a2,e2,b2⟩:=mt i2 o2;obtain⟨a3,e3,b3⟩:=mt j1 o3;obtain⟨a4,e4,b4⟩:=mt j2 o4;have l1:=Uc s m L i2 o2 fM;have l2:=Uc s m L j1 o3 fM;have d1:=Ub s m L k lo hi g ov i2 (by omega) (by omega) (by omega) (by omega)
 have d2:=Ub s m L k lo hi g ov j1 (by omega) (by omega) (by omega) (by omega);rw[e2]at d1;rw[e3]at d2;generalize (if aB s (i2:Int) then (-2:Int) else-1)=w1 at*;generalize (if aB s (j1:Int) then (-2:Int) else-1)=w2 at*;generalize bY [(lo:Int),(hi:Int)] (a2:Int)=w3 at*;generalize bY [(lo:Int),(hi:Int)] (a3:Int)=w4 at*
 have em:(q2:Int).tmod 2=((q2 % 2:Nat):Int):=by rw[Int.tmod_eq_emod_of_nonneg (by omega)];rfl
 by_cases c1:a4=j1
 ·have jU:((a4:Int)==(j1:Int))=true:=by simp;omega
  by_cases c2:a1=i2
  ·have lA:((a1:Int)==(i2:Int))=true:=by simp;omega
   refine⟨w1,w1,1,(((q2 % 2:Nat):Int)==1),?_⟩;refine Fn.av [.cell 6 26] Tryz.func55 rfl rfl (by decide) (by simp[Tryz.ntmps55]) ?_;rw[Tryz.ntmps55]
   repeat' (first|omega|(first|apply ah|refine aw nh ?_|skip);simp only[go_sem,em,e1,e3,e4,jU,lA]|refine az ?_|refine aA ?_|apply ag<;>(intro h_;(try simp only[h_]);revert h_)|apply zO|with_reducible intro h_|trivial)
   refine⟨aL.flat rfl (by simp only[go_sem]) (by simp only[go_sem];try rfl) l1 rfl ?_⟩
   repeat' (first|omega|(first|apply ah|refine aw nh ?_|skip);simp only[go_sem,em,e1,e3,e4,jU,lA]|refine az ?_|refine aA ?_|apply ag<;>(intro h_;(try simp only[h_]);revert h_)|apply zO|with_reducible intro h_|trivial)
   all_goals exact aT.refl _
  ·have lA:((a1:Int)==(i2:Int))=false:=by simp;omega
   refine⟨w3,w3,1,(((q2 % 2:Nat):Int)==1),?_⟩;refine Fn.av [.cell 6 26] Tryz.func55 rfl rfl (by decide) (by simp[Tryz.ntmps55]) ?_;rw[Tryz.ntmps55]
   repeat' (first|omega|(first|apply ah|refine aw nh ?_|skip);simp only[go_sem,em,e1,e3,e4,jU,lA]|refine az ?_|refine aA ?_|apply ag<;>(intro h_;(try simp only[h_]);revert h_)|apply zO|with_reducible intro h_|trivial)
   refine⟨aL.flat rfl (by simp only[go_sem]) (by simp only[go_sem];try rfl) d1 rfl ?_⟩
   repeat' (first|omega|(first|apply ah|refine aw nh ?_|skip);simp only[go_sem,em,e1,e3,e4,jU,lA]|refine az ?_|refine aA ?_|apply ag<;>(intro h_;(try simp only[h_]);revert h_)|apply zO|with_reducible intro h_|trivial)
   all_goals exact aT.refl _
 ·have jU:((a4:Int)==(j1:Int))=false:=by simp;omega
  by_cases c2:a1=i2
  ·have lA:((a1:Int)==(i2:Int))=true:=by simp;omega
   refine⟨w4,w4,-1,(((q2 % 2:Nat):Int)==1),?_⟩;refine Fn.av [.cell 6 26] Tryz.func55 rfl rfl (by decide) (by simp[Tryz.ntmps55]) ?_;rw[Tryz.ntmps55]
   repeat' (first|omega|(first|apply ah|refine aw nh ?_|skip);simp only[go_sem,em,e1,e3,e4,jU,lA]|refine az ?_|refine aA ?_|apply ag<;>(intro h_;(try simp only[h_]);revert h_)|apply zO|with_reducible intro h_|trivial)
   refine⟨aL.flat rfl (by simp only[go_sem]) (by simp only[go_sem];try rfl) d2 rfl ?_⟩
   repeat' (first|omega|(first|apply ah|refine aw nh ?_|skip);simp only[go_sem,em,e1,e3,e4,jU,lA]|refine az ?_|refine aA ?_|apply ag<;>(intro h_;(try simp only[h_]);revert h_)|apply zO|with_reducible intro h_|trivial)
   all_goals exact aT.refl _
  ·have lA:((a1:Int)==(i2:Int))=false:=by simp;omega
   refine⟨if a2=j2 then w1 else w3,if a3=i1 then w2 else w4,0,(((q2 % 2:Nat):Int)==1),?_⟩;by_cases c3:a2=j2
   ·have rb:((a2:Int)==(j2:Int))=true:=by simp;omega
    rw[zM c3];by_cases c4:a3=i1
    ·have pB:((a3:Int)==(i1:Int))=true:=by simp;omega
     rw[zM c4];refine Fn.av [.cell 6 26] Tryz.func55 rfl rfl (by decide) (by simp[Tryz.ntmps55]) ?_;rw[Tryz.ntmps55]
     repeat' (first|omega|(first|apply ah|refine aw nh ?_|skip);simp only[go_sem,em,e1,e2,e3,e4,jU,lA,rb,pB]|refine az ?_|refine aA ?_|apply ag<;>(intro h_;(try simp only[h_]);revert h_)|apply zO|with_reducible intro h_|trivial)
     refine⟨dd.flat rfl (by simp only[go_sem]) (by simp only[go_sem];try rfl) d1 rfl ?_⟩
     repeat' (first|omega|(first|apply ah|refine aw nh ?_|skip);simp only[go_sem,em,e1,e2,e3,e4,jU,lA,rb,pB]|refine az ?_|refine aA ?_|apply ag<;>(intro h_;(try simp only[h_]);revert h_)|apply zO|with_reducible intro h_|trivial)
     refine⟨dd.flat rfl (by simp only[go_sem]) (by simp only[go_sem];try rfl) d2 rfl ?_⟩
     repeat' (first|omega|(first|apply ah|refine aw nh ?_|skip);simp only[go_sem,em,e1,e2,e3,e4,jU,lA,rb,pB]|refine az ?_|refine aA ?_|apply ag<;>(intro h_;(try simp only[h_]);revert h_)|apply zO|with_reducible intro h_|trivial)
     refine⟨aL.flat rfl (by simp only[go_sem]) (by simp only[go_sem];try rfl) l1 rfl ?_⟩
     repeat' (first|omega|(first|apply ah|refine aw nh ?_|skip);simp only[go_sem,em,e1,e2,e3,e4,jU,lA,rb,pB]|refine az ?_|refine aA ?_|apply ag<;>(intro h_;(try simp only[h_]);revert h_)|apply zO|with_reducible intro h_|trivial)
     refine⟨aL.flat rfl (by simp only[go_sem]) (by simp only[go_sem];try rfl) l2 rfl ?_⟩
     repeat' (first|omega|(first|apply ah|refine aw nh ?_|skip);simp only[go_sem,em,e1,e2,e3,e4,jU,lA,rb,pB]|refine az ?_|refine aA ?_|apply ag<;>(intro h_;(try simp only[h_]);revert h_)|apply zO|with_reducible intro h_|trivial)
     all_goals exact aT.refl _
    ·have pB:((a3:Int)==(i1:Int))=false:=by simp;omega
     rw[zL c4];refine Fn.av [.cell 6 26] Tryz.func55 rfl rfl (by decide) (by simp[Tryz.ntmps55]) ?_;rw[Tryz.ntmps55]
     repeat' (first|omega|(first|apply ah|refine aw nh ?_|skip);simp only[go_sem,em,e1,e2,e3,e4,jU,lA,rb,pB]|refine az ?_|refine aA ?_|apply ag<;>(intro h_;(try simp only[h_]);revert h_)|apply zO|with_reducible intro h_|trivial)
     refine⟨dd.flat rfl (by simp only[go_sem]) (by simp only[go_sem];try rfl) d1 rfl ?_⟩
     repeat' (first|omega|(first|apply ah|refine aw nh ?_|skip);simp only[go_sem,em,e1,e2,e3,e4,jU,lA,rb,pB]|refine az ?_|refine aA ?_|apply ag<;>(intro h_;(try simp only[h_]);revert h_)|apply zO|with_reducible intro h_|trivial)
     refine⟨dd.flat rfl (by simp only[go_sem]) (by simp only[go_sem];try rfl) d2 rfl ?_⟩
     repeat' (first|omega|(first|apply ah|refine aw nh ?_|skip);simp only[go_sem,em,e1,e2,e3,e4,jU,lA,rb,pB]|refine az ?_|refine aA ?_|apply ag<;>(intro h_;(try simp only[h_]);revert h_)|apply zO|with_reducible intro h_|trivial)
     refine⟨aL.flat rfl (by simp only[go_sem]) (by simp only[go_sem];try rfl) l1 rfl ?_⟩
     repeat' (first|omega|(first|apply ah|refine aw nh ?_|skip);simp only[go_sem,em,e1,e2,e3,e4,jU,lA,rb,pB]|refine az ?_|refine aA ?_|apply ag<;>(intro h_;(try simp only[h_]);revert h_)|apply zO|with_reducible intro h_|trivial)
     all_goals exact aT.refl _
   ·have rb:((a2:Int)==(j2:Int))=false:=by simp;omega
    rw[zL c3];by_cases c4:a3=i1
    ·have pB:((a3:Int)==(i1:Int))=true:=by simp;omega
     rw[zM c4];refine Fn.av [.cell 6 26] Tryz.func55 rfl rfl (by decide) (by simp[Tryz.ntmps55]) ?_;rw[Tryz.ntmps55]
     repeat' (first|omega|(first|apply ah|refine aw nh ?_|skip);simp only[go_sem,em,e1,e2,e3,e4,jU,lA,rb,pB]|refine az ?_|refine aA ?_|apply ag<;>(intro h_;(try simp only[h_]);revert h_)|apply zO|with_reducible intro h_|trivial)
     refine⟨dd.flat rfl (by simp only[go_sem]) (by simp only[go_sem];try rfl) d1 rfl ?_⟩
     repeat' (first|omega|(first|apply ah|refine aw nh ?_|skip);simp only[go_sem,em,e1,e2,e3,e4,jU,lA,rb,pB]|refine az ?_|refine aA ?_|apply ag<;>(intro h_;(try simp only[h_]);revert h_)|apply zO|with_reducible intro h_|trivial)
     refine⟨dd.flat rfl (by simp only[go_sem]) (by simp only[go_sem];try rfl) d2 rfl ?_⟩
     repeat' (first|omega|(first|apply ah|refine aw nh ?_|skip);simp only[go_sem,em,e1,e2,e3,e4,jU,lA,rb,pB]|refine az ?_|refine aA ?_|apply ag<;>(intro h_;(try simp only[h_]);revert h_)|apply zO|with_reducible intro h_|trivial)
     refine⟨aL.flat rfl (by simp only[go_sem]) (by simp only[go_sem];try rfl) l2 rfl ?_⟩
     repeat' (first|omega|(first|apply ah|refine aw nh ?_|skip);simp only[go_sem,em,e1,e2,e3,e4,jU,lA,rb,pB]|refine az ?_|refine aA ?_|apply ag<;>(intro h_;(try simp only[h_]);revert h_)|apply zO|with_reducible intro h_|trivial)
     all_goals exact aT.refl _
    ·have pB:((a3:Int)==(i1:Int))=false:=by simp;omega
     rw[zL c4];refine Fn.av [.cell 6 26] Tryz.func55 rfl rfl (by decide) (by simp[Tryz.ntmps55]) ?_;rw[Tryz.ntmps55]
     repeat' (first|omega|(first|apply ah|refine aw nh ?_|skip);simp only[go_sem,em,e1,e2,e3,e4,jU,lA,rb,pB]|refine az ?_|refine aA ?_|apply ag<;>(intro h_;(try simp only[h_]);revert h_)|apply zO|with_reducible intro h_|trivial)
     refine⟨dd.flat rfl (by simp only[go_sem]) (by simp only[go_sem];try rfl) d1 rfl ?_⟩
     repeat' (first|omega|(first|apply ah|refine aw nh ?_|skip);simp only[go_sem,em,e1,e2,e3,e4,jU,lA,rb,pB]|refine az ?_|refine aA ?_|apply ag<;>(intro h_;(try simp only[h_]);revert h_)|apply zO|with_reducible intro h_|trivial)
     refine⟨dd.flat rfl (by simp only[go_sem]) (by simp only[go_sem];try rfl) d2 rfl ?_⟩
     repeat' (first|omega|(first|apply ah|refine aw nh ?_|skip);simp only[go_sem,em,e1,e2,e3,e4,jU,lA,rb,pB]|refine az ?_|refine aA ?_|apply ag<;>(intro h_;(try simp only[h_]);revert h_)|apply zO|with_reducible intro h_|trivial)
     all_goals exact aT.refl _
end Go.Proofs.YthohfoombimbeaaGreatDoor
