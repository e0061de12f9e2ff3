import Derived.Test.YthohfoombimbeaaGreatDoorZl
namespace Go.Proofs.YthohfoombimbeaaGreatDoor
open Go Go.RowKit
set_option maxRecDepth 99999
set_option maxHeartbeats 8000000
set_option linter.unusedVariables false
set_option linter.unusedSimpArgs false
def Z5:Hy:=[(9,[[31],[30],[31],[]],[[],[0,1,1000008,1000009],[1],[]],[8,9])]
def y70:wV:=[(7,.node [(0,.node [(1,.node [(2,trD [3,4,5]),(3,trD [2,4,5])]),(2,.node [(1,trD [3,4,5]),(3,.node [(1,trD [4,5]),(4,trD [1,5])])]),(3,.node [(1,trD [2,4,5]),(2,.node [(1,trD [4,5]),(4,trD [1,5])])])]),(1,.node [(0,.node [(2,trD [3,4,5]),(3,trD [2,4,5])]),(2,.node [(0,trD [3,4,5]),(3,trD [0,4,5])]),(3,.node [(0,trD [2,4,5]),(2,trD [0,4,5])])]),(2,.node [(0,.node [(1,trD [3,4,5]),(3,.node [(1,trD [4,5]),(4,trD [1,5])])]),(1,.node [(0,trD [3,4,5]),(3,trD [0,4,5])]),(3,.node [(0,.node [(1,trD [4,5]),(4,trD [1,5])]),(1,trD [0,4,5])])]),(3,.node [(0,.node [(1,trD [2,4,5]),(2,.node [(1,trD [4,5]),(4,trD [1,5])])]),(1,.node [(0,trD [2,4,5]),(2,trD [0,4,5])]),(2,.node [(0,.node [(1,trD [4,5]),(4,trD [1,5])]),(1,trD [0,4,5])])])]),(15,.node [(0,.node [(1,.node [(2,trD [3,4,5,6,7]),(3,.node [(2,trD [4,5,6,7]),(4,.node [(2,trD [5,6,7]),(5,trD [2,6,7])])])]),(3,.node [(1,.node [(2,trD [4,5,6,7]),(4,.node [(2,trD [5,6,7]),(5,trD [2,6,7])])]),(4,.node [(1,.node [(2,trD [5,6,7]),(5,trD [2,6,7])]),(5,trD [1,2,6,7])])])]),(3,.node [(0,.node [(1,.node [(2,trD [4,5,6,7]),(4,.node [(2,trD [5,6,7]),(5,trD [2,6,7])])]),(4,.node [(1,.node [(2,trD [5,6,7]),(5,trD [2,6,7])]),(5,trD [1,2,6,7])])]),(4,.node [(0,.node [(1,.node [(2,trD [5,6,7]),(5,trD [2,6,7])]),(5,trD [1,2,6,7])]),(5,trD [0,1,2,6,7])])])])]
def y71:fc:=[(9,[[31],[30],[31],[]],[[],[0],[1],[]])]
def Z6:fc:=[(7,[[27,8,9],[26,8,9],[26,27,9],[26,27,8],[27],[]],[[],[0,1],[0,1],[0,1,2],[1],[]]),(15,[[40,41,42],[40,41,42],[40,41,42],[37,38,39],[37,38,39],[37,38,39],[],[]],[[],[],[],[0,1,2],[0,1,2],[0,1,2],[],[]]),(18,[[49,50,51,52,53,55],[48,51,52,55],[48,51,52,55],[48,49,50,55],[48,49,50,55],[48,55],[55],[48,49,50,51,52,53,54],[55],[]],[[],[0],[0],[0,1,2],[0,1,2],[0],[],[0,1,2,3,4,5,6],[7],[]])]++y71
def y72:wV:=[(9,.node [(0,.node [(1,trD [2,3]),(2,trD [1,3])]),(1,trD [0,2,3])])]
def n7:Tr:= .node [(0,.node [(1,.node [(2,trD [3,4,5]),(3,trD [2,4,5])]),(2,.node [(1,trD [3,4,5]),(3,.node [(1,trD [4,5]),(4,trD [1,5])])]),(3,.node [(1,trD [2,4,5]),(2,.node [(1,trD [4,5]),(4,trD [1,5])])])]),(1,.node [(0,.node [(2,trD [3,4,5]),(3,trD [2,4,5])]),(2,.node [(0,trD [3,4,5]),(3,trD [0,4,5])]),(3,.node [(0,trD [2,4,5]),(2,trD [0,4,5])])]),(2,.node [(0,.node [(1,trD [3,4,5]),(3,.node [(1,trD [4,5]),(4,trD [1,5])])]),(1,.node [(0,trD [3,4,5]),(3,trD [0,4,5])]),(3,.node [(0,.node [(1,trD [4,5]),(4,trD [1,5])]),(1,trD [0,4,5])])]),(3,.node [(0,.node [(1,trD [2,4,5]),(2,.node [(1,trD [4,5]),(4,trD [1,5])])]),(1,.node [(0,trD [2,4,5]),(2,trD [0,4,5])]),(2,.node [(0,.node [(1,trD [4,5]),(4,trD [1,5])]),(1,trD [0,4,5])])])]
def nZ:Tr:= .node [(0,.node [(1,trD [2,3]),(2,trD [1,3])]),(1,trD [0,2,3])]
def nY:Tr:=trP [0,1,3,4] (.node [(2,trD [5,6,7]),(5,trD [2,6,7])])
def nX:Tr:=trP [1,3] (.node [(0,.node [(2,.node [(4,.node [(5,.node [(6,.node [(7,trD [8,9]),(8,trD [7,9])]),(7,trD [6,8,9])]),(7,trD [5,6,8,9])]),(7,trD [4,5,6,8,9])]),(4,.node [(2,.node [(5,.node [(6,.node [(7,trD [8,9]),(8,trD [7,9])]),(7,trD [6,8,9])]),(7,trD [5,6,8,9])]),(7,trD [2,5,6,8,9])]),(7,.node [(2,trD [4,5,6,8,9]),(4,trD [2,5,6,8,9])])]),(2,.node [(0,.node [(4,.node [(5,.node [(6,.node [(7,trD [8,9]),(8,trD [7,9])]),(7,trD [6,8,9])]),(7,trD [5,6,8,9])]),(7,trD [4,5,6,8,9])]),(4,.node [(0,.node [(5,.node [(6,.node [(7,trD [8,9]),(8,trD [7,9])]),(7,trD [6,8,9])]),(7,trD [5,6,8,9])]),(5,.node [(0,.node [(6,.node [(7,trD [8,9]),(8,trD [7,9])]),(7,trD [6,8,9])]),(7,trD [0,6,8,9])]),(7,.node [(0,trD [5,6,8,9]),(5,trD [0,6,8,9])])]),(7,.node [(0,trD [4,5,6,8,9]),(4,.node [(0,trD [5,6,8,9]),(5,trD [0,6,8,9])])])]),(4,.node [(0,.node [(2,.node [(5,.node [(6,.node [(7,trD [8,9]),(8,trD [7,9])]),(7,trD [6,8,9])]),(7,trD [5,6,8,9])]),(7,trD [2,5,6,8,9])]),(2,.node [(0,.node [(5,.node [(6,.node [(7,trD [8,9]),(8,trD [7,9])]),(7,trD [6,8,9])]),(7,trD [5,6,8,9])]),(5,.node [(0,.node [(6,.node [(7,trD [8,9]),(8,trD [7,9])]),(7,trD [6,8,9])]),(7,trD [0,6,8,9])]),(7,.node [(0,trD [5,6,8,9]),(5,trD [0,6,8,9])])]),(7,.node [(0,trD [2,5,6,8,9]),(2,.node [(0,trD [5,6,8,9]),(5,trD [0,6,8,9])])])]),(7,.node [(0,.node [(2,trD [4,5,6,8,9]),(4,trD [2,5,6,8,9])]),(2,.node [(0,trD [4,5,6,8,9]),(4,.node [(0,trD [5,6,8,9]),(5,trD [0,6,8,9])])]),(4,.node [(0,trD [2,5,6,8,9]),(2,.node [(0,trD [5,6,8,9]),(5,trD [0,6,8,9])])])])])
def xe:wV:=[(7,.node [(0,.node [(1,.node [(2,trD [3,4,5]),(3,trD [2,4,5])]),(2,.node [(1,trD [3,4,5]),(3,.node [(1,trD [4,5]),(4,trD [1,5])])]),(3,.node [(1,trD [2,4,5]),(2,.node [(1,trD [4,5]),(4,trD [1,5])])])]),(1,.node [(0,.node [(2,trD [3,4,5]),(3,trD [2,4,5])]),(2,.node [(0,trD [3,4,5]),(3,trD [0,4,5])]),(3,.node [(0,trD [2,4,5]),(2,trD [0,4,5])])]),(2,.node [(0,.node [(1,trD [3,4,5]),(3,.node [(1,trD [4,5]),(4,trD [1,5])])]),(1,.node [(0,trD [3,4,5]),(3,trD [0,4,5])]),(3,.node [(0,.node [(1,trD [4,5]),(4,trD [1,5])]),(1,trD [0,4,5])])]),(3,.node [(0,.node [(1,trD [2,4,5]),(2,.node [(1,trD [4,5]),(4,trD [1,5])])]),(1,.node [(0,trD [2,4,5]),(2,trD [0,4,5])]),(2,.node [(0,.node [(1,trD [4,5]),(4,trD [1,5])]),(1,trD [0,4,5])])])]),(9,.node [(0,.node [(1,trD [2,3]),(2,trD [1,3])]),(1,trD [0,2,3])]),(15,.node [(0,.node [(1,.node [(2,trD [3,4,5,6,7]),(3,.node [(2,trD [4,5,6,7]),(4,.node [(2,trD [5,6,7]),(5,trD [2,6,7])])])]),(3,.node [(1,.node [(2,trD [4,5,6,7]),(4,.node [(2,trD [5,6,7]),(5,trD [2,6,7])])]),(4,.node [(1,.node [(2,trD [5,6,7]),(5,trD [2,6,7])]),(5,trD [1,2,6,7])])])]),(3,.node [(0,.node [(1,.node [(2,trD [4,5,6,7]),(4,.node [(2,trD [5,6,7]),(5,trD [2,6,7])])]),(4,.node [(1,.node [(2,trD [5,6,7]),(5,trD [2,6,7])]),(5,trD [1,2,6,7])])]),(4,.node [(0,.node [(1,.node [(2,trD [5,6,7]),(5,trD [2,6,7])]),(5,trD [1,2,6,7])]),(5,trD [0,1,2,6,7])])])])]
def sN(a b:Int)(q:Nat):List AV:=[I (if 0<q then a else 0),I (if 1<q then b else 0)]
def NT(s m:List Int)(L a b u0 u1:Int)(n:Nat)(fr:Fr)(H:Hp):Prop:=
 ∃(q:Nat) (w0 w1:Int),q<=2/\n=2-q/\(0<=w0/\w0<4/\0<=w1/\w1<4)/\a=(if (w0-u0+4)% 4=3 then 1 else-1)/\b=(if (w1-u1+4)% 4=3 then 1 else-1)/\fr=[(32,I q),(10,.ptr 10 0),(9,.ptr 9 0),(8,.ptr 8 0),(5,.ptr 3 0),(4,.ptr 2 0),(2,.ptr 0 0)]/\
  H=[(10,.cells 84 (.lst (sN a b q))),(9,.cells 84 (.lst [I w0,I w1])),(8,.cells 84 (.lst [I u0,I u1])),(3,.cells 84 (.lst [I 0,I 0])),(2,.cells 24 (.lst [.nils,.nils,I 0])),(0,.cells 24 (.lst [roI s,roI m,I L]))]
theorem X7(s m:List Int)(L k x y g:Int)(ov:Bool)(hs:s.length<=64)(hm:m.length=4*s.length)(hx:x<4*s.length)(hy:y<4*s.length):
  nD Tryz.prog 47 [dgA s m L,ei k x y g ov] (.tup [.agg [.sl 1 18 0 (s.length+2),.sl 1 26 0 (m.length+8),I L],.agg [I (gW (nB s x) (nB s y) ov),I (cK (nB s x) (nB s y) ov)]])
   [(26,.cells 3 (.ints (m++[0,0,0,0,0,0,0,0]))),(18,.cells 3 (.ints (s++[tJ (nB s x) (nB s y) ov,Cu (nB s x) (nB s y) ov])))]:=by
 have hX:=TZ s m L x hx (by omega);have hY:=TZ s m L y hy (by omega);have pl:∀f d:Int,0<=f->f<4->0<=d->d<4->Fn Tryz.prog 49 [I 0,I f,I d] (I (4*0+(d-f+4)% 4)):=fun f d h1 h2 h3 h4=>Md 0 f d (by omega) ⟨h1,h2⟩ ⟨h3,h4⟩;generalize nB s x=fX at*;generalize nB s y=fY at*;obtain⟨u0,An⟩:∃u:Int,(gW fX fY ov:Int)=u:=⟨_,rfl⟩;obtain⟨u1,kU⟩:∃u:Int,(cK fX fY ov:Int)=u:=⟨_,rfl⟩
 obtain⟨a,Gc⟩:∃a:Int,tJ fX fY ov=a:=⟨_,rfl⟩;obtain⟨b,OJ⟩:∃a:Int,Cu fX fY ov=a:=⟨_,rfl⟩;rw[An,kU,Gc,OJ];have bu:0<=u0/\u0<4/\0<=u1/\u1<4:=by
  rw[<-An,<-kU];cases fX<;>cases fY<;>cases ov<;>decide
 refine nD.intro [.cell 4 24,.cell 5 84] Tryz.func47 rfl rfl (by decide) (by simp[Tryz.ntmps47]) ?_;rw[Tryz.ntmps47];apply Cz.share (P:=Tryz.prog) (N:=56) (NT s m L a b u0 u1)
 ·intro hl;rcases Bool.eq_false_or_eq_true fX with h1|h1<;>rcases Bool.eq_false_or_eq_true fY with h2|h2<;>rcases Bool.eq_false_or_eq_true ov with h3|h3
  all_goals
   rw[h1]at hX;rw[h2]at hY;rw[h1,h2,h3]at An kU Gc OJ;rw[h3]
   repeat' (first|omega|(first|apply ah|refine aw Z6 ?_|refine vi Z5 [8,9] [8,9] rfl (by simp only[go_sem,zA]) (by simp only[go_sem,zA]) ?_|refine gH y70 ?_|refine aw y71 ?_|refine gH y72 ?_|skip);simp only[go_sem,zA]|refine az ?_|refine aA ?_|apply ag<;>(intro h_;(try simp only[h_]);revert h_)|apply zO|with_reducible intro h_|trivial)
   refine hl _ _ ⟨2,_,_,?_,0,if ov then (if fX then 3 else 1) else (if fY then 0 else 2),if ov then (if fX then 1 else 3) else (if fY then 0 else 2),by omega,rfl,?_,?_,?_,rfl,rfl⟩
   ·rw[h1,h2,h3];rw[<-An,<-kU];refine Wk.sub ?_ ?_<;>simp only[go_sem]
    all_goals exact⟨rfl,rfl,by decide,by decide⟩
   ·rw[h1,h2,h3];decide
   ·rw[h1,h2,h3,<-Gc,<-An];decide
   ·rw[h1,h2,h3,<-OJ,<-kU];decide
 ·rintro n fr H ⟨q,w0,w1,hq,rfl,bw,ha,hb,rfl,rfl⟩;by_cases p6:q<2
  ·have bq:decide ((q:Int)<2)=true:=by rw[decide_eq_true_iff];omega
   rcases (show q=0\/q=1 by omega) with rfl|rfl
   ·have hp:=pl u0 w0 (by omega) (by omega) (by omega) (by omega);obtain⟨z,hz⟩:∃z,(w0-u0+4)% 4=z:=⟨_,rfl⟩;rw[hz]at hp;have h0:=ha;rw[hz]at h0;by_cases c:z=3
    ·rw[zM c]at h0;have bc:(4*0+z==3)=true:=by rw[beq_iff_eq];omega
     repeat' (first|omega|(first|apply ah|refine a8.aD (id:=7) (n7) (by decide+kernel) mixed ?_|refine a8.aD (id:=9) (nZ) (by decide+kernel) mixed ?_|refine a8.aD (id:=15) (nY) (by decide+kernel) mixed ?_|refine a8.aD (id:=18) (nX) (by decide+kernel) mixed ?_|refine aw Z6 ?_|refine gH xe ?_|skip);simp only[go_sem,bq,bc,sN,n7,nZ,nY,nX]|apply ag<;>(intro h_;(try simp only[h_]);revert h_)|apply zO|with_reducible intro h_|trivial)
     all_goals (refine⟨aL.fn rfl hp ?_⟩)
     all_goals repeat' (first|omega|(first|apply ah|refine a8.aD (id:=7) (n7) (by decide+kernel) mixed ?_|refine a8.aD (id:=9) (nZ) (by decide+kernel) mixed ?_|refine a8.aD (id:=15) (nY) (by decide+kernel) mixed ?_|refine a8.aD (id:=18) (nX) (by decide+kernel) mixed ?_|refine aw Z6 ?_|refine gH xe ?_|skip);simp only[go_sem,bq,bc,sN,n7,nZ,nY,nX]|apply ag<;>(intro h_;(try simp only[h_]);revert h_)|apply zO|with_reducible intro h_|trivial)
     all_goals
      refine⟨1,_,_,by omega,?_,1,w0,w1,by omega,rfl,bw,ha,hb,rfl,rfl⟩;refine Wk.sub ?_ ?_<;>(simp only[go_sem,sN,h0])
      all_goals rfl
    ·rw[zL c]at h0;have bc:(4*0+z==3)=false:=by rw[zX];omega
     repeat' (first|omega|(first|apply ah|refine a8.aD (id:=7) (n7) (by decide+kernel) mixed ?_|refine a8.aD (id:=9) (nZ) (by decide+kernel) mixed ?_|refine a8.aD (id:=15) (nY) (by decide+kernel) mixed ?_|refine a8.aD (id:=18) (nX) (by decide+kernel) mixed ?_|refine aw Z6 ?_|refine gH xe ?_|skip);simp only[go_sem,bq,bc,sN,n7,nZ,nY,nX]|apply ag<;>(intro h_;(try simp only[h_]);revert h_)|apply zO|with_reducible intro h_|trivial)
     all_goals (refine⟨aL.fn rfl hp ?_⟩)
     all_goals repeat' (first|omega|(first|apply ah|refine a8.aD (id:=7) (n7) (by decide+kernel) mixed ?_|refine a8.aD (id:=9) (nZ) (by decide+kernel) mixed ?_|refine a8.aD (id:=15) (nY) (by decide+kernel) mixed ?_|refine a8.aD (id:=18) (nX) (by decide+kernel) mixed ?_|refine aw Z6 ?_|refine gH xe ?_|skip);simp only[go_sem,bq,bc,sN,n7,nZ,nY,nX]|apply ag<;>(intro h_;(try simp only[h_]);revert h_)|apply zO|with_reducible intro h_|trivial)
     all_goals
      refine⟨1,_,_,by omega,?_,1,w0,w1,by omega,rfl,bw,ha,hb,rfl,rfl⟩;refine Wk.sub ?_ ?_<;>(simp only[go_sem,sN,h0])
      all_goals rfl
   ·have hp:=pl u1 w1 (by omega) (by omega) (by omega) (by omega);obtain⟨z,hz⟩:∃z,(w1-u1+4)% 4=z:=⟨_,rfl⟩;rw[hz]at hp;have h0:=hb;rw[hz]at h0;by_cases c:z=3
    ·rw[zM c]at h0;have bc:(4*0+z==3)=true:=by rw[beq_iff_eq];omega
     repeat' (first|omega|(first|apply ah|refine a8.aD (id:=7) (n7) (by decide+kernel) mixed ?_|refine a8.aD (id:=9) (nZ) (by decide+kernel) mixed ?_|refine a8.aD (id:=15) (nY) (by decide+kernel) mixed ?_|refine a8.aD (id:=18) (nX) (by decide+kernel) mixed ?_|refine aw Z6 ?_|refine gH xe ?_|skip);simp only[go_sem,bq,bc,sN,n7,nZ,nY,nX]|apply ag<;>(intro h_;(try simp only[h_]);revert h_)|apply zO|with_reducible intro h_|trivial)
     all_goals (refine⟨aL.fn rfl hp ?_⟩)
     all_goals repeat' (first|omega|(first|apply ah|refine a8.aD (id:=7) (n7) (by decide+kernel) mixed ?_|refine a8.aD (id:=9) (nZ) (by decide+kernel) mixed ?_|refine a8.aD (id:=15) (nY) (by decide+kernel) mixed ?_|refine a8.aD (id:=18) (nX) (by decide+kernel) mixed ?_|refine aw Z6 ?_|refine gH xe ?_|skip);simp only[go_sem,bq,bc,sN,n7,nZ,nY,nX]|apply ag<;>(intro h_;(try simp only[h_]);revert h_)|apply zO|with_reducible intro h_|trivial)
     all_goals
      refine⟨0,_,_,by omega,?_,2,w0,w1,by omega,rfl,bw,ha,hb,rfl,rfl⟩;refine Wk.sub ?_ ?_<;>(simp only[go_sem,sN,h0])
      all_goals rfl
    ·rw[zL c]at h0;have bc:(4*0+z==3)=false:=by rw[zX];omega
     repeat' (first|omega|(first|apply ah|refine a8.aD (id:=7) (n7) (by decide+kernel) mixed ?_|refine a8.aD (id:=9) (nZ) (by decide+kernel) mixed ?_|refine a8.aD (id:=15) (nY) (by decide+kernel) mixed ?_|refine a8.aD (id:=18) (nX) (by decide+kernel) mixed ?_|refine aw Z6 ?_|refine gH xe ?_|skip);simp only[go_sem,bq,bc,sN,n7,nZ,nY,nX]|apply ag<;>(intro h_;(try simp only[h_]);revert h_)|apply zO|with_reducible intro h_|trivial)
     all_goals (refine⟨aL.fn rfl hp ?_⟩)
     all_goals repeat' (first|omega|(first|apply ah|refine a8.aD (id:=7) (n7) (by decide+kernel) mixed ?_|refine a8.aD (id:=9) (nZ) (by decide+kernel) mixed ?_|refine a8.aD (id:=15) (nY) (by decide+kernel) mixed ?_|refine a8.aD (id:=18) (nX) (by decide+kernel) mixed ?_|refine aw Z6 ?_|refine gH xe ?_|skip);simp only[go_sem,bq,bc,sN,n7,nZ,nY,nX]|apply ag<;>(intro h_;(try simp only[h_]);revert h_)|apply zO|with_reducible intro h_|trivial)
     all_goals
      refine⟨0,_,_,by omega,?_,2,w0,w1,by omega,rfl,bw,ha,hb,rfl,rfl⟩;refine Wk.sub ?_ ?_<;>(simp only[go_sem,sN,h0])
      all_goals rfl
  ·obtain rfl:q=2:=by omega
   have bq:decide (((2:Nat):Int)<2)=false:=by decide
   have hG:=Tp s m L [a,b] (by simp) (by simp;omega) hm;rw[show s.length+[a,b].length=s.length+2 from rfl,show m.length+4*[a,b].length=m.length+8 from rfl,show m++List.replicate (4*[a,b].length) (0:Int)=m++[0,0,0,0,0,0,0,0] from rfl]at hG
   repeat' (first|omega|(try apply ah);simp only[go_sem,bq,sN]|refine az ?_|refine aA ?_|apply ag<;>(intro h_;(try simp only[h_]);revert h_)|apply zO|with_reducible intro h_|trivial)
   refine a8.yX [(5,.ptr 3 0),(4,.ptr 2 0)] [(26,.cells 3 (.ints (m++[0,0,0,0,0,0,0,0]))),(18,.cells 3 (.ints (s++[a,b]))),(3,.cells 84 (.lst [I u0,I u1])),(2,.cells 24 (.lst [.sl 1 18 0 (s.length+2),.sl 1 26 0 (m.length+8),I L]))] ?_ ?_
   ·generalize m++[0,0,0,0,0,0,0,0]=m8 at*;generalize s++[a,b]=s2 at*
    repeat' (first|omega|(first|apply ah|refine a8.aD (id:=7) (n7) (by decide+kernel) mixed ?_|refine a8.aD (id:=9) (nZ) (by decide+kernel) mixed ?_|refine a8.aD (id:=15) (nY) (by decide+kernel) mixed ?_|refine a8.aD (id:=18) (nX) (by decide+kernel) mixed ?_|refine aw Z6 ?_|refine gH xe ?_|skip);simp only[go_sem,zA,n7,nZ,nY,nX]|apply ag<;>(intro h_;(try simp only[h_]);revert h_)|apply zO|with_reducible intro h_|trivial)
    all_goals (refine⟨aL.wO [11] rfl (by simp only[go_sem]) (by simp only[go_sem]) (by simp only[go_sem]) (by simp only[go_sem]) rfl rfl rfl (aL.DV rfl hG ?_)⟩)
    all_goals repeat' (first|omega|(first|apply ah|refine a8.aD (id:=7) (n7) (by decide+kernel) mixed ?_|refine a8.aD (id:=9) (nZ) (by decide+kernel) mixed ?_|refine a8.aD (id:=15) (nY) (by decide+kernel) mixed ?_|refine a8.aD (id:=18) (nX) (by decide+kernel) mixed ?_|refine aw Z6 ?_|refine gH xe ?_|skip);simp only[go_sem,zA,n7,nZ,nY,nX]|apply ag<;>(intro h_;(try simp only[h_]);revert h_)|apply zO|with_reducible intro h_|trivial)
    all_goals (refine Wk.sub ?_ ?_<;>(simp only[go_sem]))
   ·repeat' (first|omega|(try apply ah);simp only[go_sem,bq]|refine az ?_|refine aA ?_|apply ag<;>(intro h_;(try simp only[h_]);revert h_)|apply zO|with_reducible intro h_|trivial)
end Go.Proofs.YthohfoombimbeaaGreatDoor
