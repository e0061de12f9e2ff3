/- Layer 18: the law JonesSkein. -/
import Derived.Test.YtphjphpmfflfpaaGreatDoorZv
import Derived.Test.YtphjphpmfflfpaaGreatDoorZy
import Derived.Test.YtphjphpmfflfpaaGreatDoorZva
namespace Go.Proofs.YtphjphpmfflfpaaGreatDoor
open Go Go.RowKit
set_option maxRecDepth 100000
set_option maxHeartbeats 8000000
set_option linter.unusedVariables false
set_option linter.unusedSimpArgs false
def oD:Tr:= .node [(0, .node [(1, .node [(2, .node [(3, .node [(4, .node [(5, .done)])])]),(3, .node [(2, .node [(4, .node [(5, .done)])])])]),(2, .node [(1, .node [(3, .node [(4, .node [(5, .done)])])]),(3, .node [(1, .node [(4, .node [(5, .done)])]),(4, .node [(1, .node [(5, .done)])])])]),(3, .node [(1, .node [(2, .node [(4, .node [(5, .done)])])]),(2, .node [(1, .node [(4, .node [(5, .done)])]),(4, .node [(1, .node [(5, .done)])])])])]),(1, .node [(0, .node [(2, .node [(3, .node [(4, .node [(5, .done)])])]),(3, .node [(2, .node [(4, .node [(5, .done)])])])]),(2, .node [(0, .node [(3, .node [(4, .node [(5, .done)])])]),(3, .node [(0, .node [(4, .node [(5, .done)])])])]),(3, .node [(0, .node [(2, .node [(4, .node [(5, .done)])])]),(2, .node [(0, .node [(4, .node [(5, .done)])])])])]),(2, .node [(0, .node [(1, .node [(3, .node [(4, .node [(5, .done)])])]),(3, .node [(1, .node [(4, .node [(5, .done)])]),(4, .node [(1, .node [(5, .done)])])])]),(1, .node [(0, .node [(3, .node [(4, .node [(5, .done)])])]),(3, .node [(0, .node [(4, .node [(5, .done)])])])]),(3, .node [(0, .node [(1, .node [(4, .node [(5, .done)])]),(4, .node [(1, .node [(5, .done)])])]),(1, .node [(0, .node [(4, .node [(5, .done)])])])])]),(3, .node [(0, .node [(1, .node [(2, .node [(4, .node [(5, .done)])])]),(2, .node [(1, .node [(4, .node [(5, .done)])]),(4, .node [(1, .node [(5, .done)])])])]),(1, .node [(0, .node [(2, .node [(4, .node [(5, .done)])])]),(2, .node [(0, .node [(4, .node [(5, .done)])])])]),(2, .node [(0, .node [(1, .node [(4, .node [(5, .done)])]),(4, .node [(1, .node [(5, .done)])])]),(1, .node [(0, .node [(4, .node [(5, .done)])])])])])]
def oC:Tr:= .node [(0, .node [(1, .node [(2, .node [(3, .done)])]),(2, .node [(1, .node [(3, .done)])])]),(1, .node [(0, .node [(2, .node [(3, .done)])])])]
def oB:List (List Nat):=[[95,98,99],[95,98,99],[93,94,98,99],[98,99],[98,99],[93,94,95,96,97,99,100],[93,94,95,96,97,98],[98],[],[],[]]
theorem Jf {s:List Int} {c:Nat} (hc:c<s.length):b8 (oI s c) s.length=b8 s s.length-2*s.getD c 0:=by
 have key: ∀n,n<=s.length->b8 (oI s c) n=b8 s n-(if c<n then 2*s.getD c 0 else 0):=fun n=>by
  induction n with
  |zero=>intro _;simp [b8]
  |succ n ih=>
   intro hn;simp only [b8];rw [ih (by omega),Sp.ln (by omega)];by_cases h:n=c
   ·subst h;rw [if_pos rfl,if_neg (by omega),if_pos (by omega)];omega
   ·rw [if_neg h];by_cases h2:c<n
    ·rw [if_pos h2,if_pos (by omega)];omega
    ·rw [if_neg h2,if_neg (by omega)];omega
 rw [key _ (Nat.le_refl _),if_pos hc]
theorem QC {s:List Int} {c:Nat} (hc:c<s.length):b8 (nV s c) (s.length-1)=b8 s s.length-s.getD c 0:=by
 obtain ⟨w1,w2⟩:=Sp.jg (s:=s) (c:=c) s.length;rw [if_pos hc] at w1 w2;have key: ∀n,n<=s.length-1->b8 (nV s c) n=if n<=c then b8 s n else b8 s (n+1)-s.getD c 0:=fun n=>by
  induction n with
  |zero=>intro _;simp [b8]
  |succ n ih=>
   intro hn;have e:(nV s c).getD n 0=s.getD (if n<c then n else n+1) 0:=w2 n (by omega);have e0:b8 (nV s c) (n+1)=b8 (nV s c) n+(nV s c).getD n 0:=rfl;have e1:b8 s (n+1)=b8 s n+s.getD n 0:=rfl;have e2:b8 s (n+1+1)=b8 s (n+1)+s.getD (n+1) 0:=rfl;rw [e0,ih (by omega),e];rcases (show n<c\/n=c\/c<n by omega) with h|h|h
   ·rw [if_pos (show n<=c by omega),if_pos h,if_pos (show n+1<=c by omega)];omega
   ·subst h;rw [if_pos (Nat.le_refl n),if_neg (Nat.lt_irrefl n),if_neg (show¬n+1<=n by omega)];omega
   ·rw [if_neg (show¬n<=c by omega),if_neg (show¬n<c by omega),if_neg (show¬n+1<=c by omega)];omega
 rw [key _ (Nat.le_refl _)];by_cases h:s.length-1<=c
 ·have e:s.length=c+1:=by omega
  rw [if_pos h,show s.length-1=c by omega]
  conv=>rhs;rw [e]
  simp only [b8];omega
 ·rw [if_neg h,show s.length-1+1=s.length by omega]
theorem gq.Md {P:Program} {N:Nat} {x y:Code} {fr:Fr} {H:Hp} {Q:Exit->Fr->Hp->Prop} (fr1:Fr) (H1:Hp) (h1:gq P N x fr H fun e fr' H'=>e= .normal/\Wk fr' H' fr1 H1) (h2:gq P N y fr1 H1 Q):gq P N (.seq x y) fr H Q:=by
 intro B w0 Mx w ρ a hs;refine wp_seq (wp_mono (h1 B w0 Mx w ρ a hs) ?_);rintro e a' w' ⟨ρ',fr',H',⟨rfl,hw⟩,bD⟩;obtain ⟨ρ2,gh⟩:=hw _ _ _ _ _ _ _ bD;exact h2 B w0 Mx w' ρ2 a' gh
theorem yrw (s m:List Int) (L:Int) (z:Int) (hz:0<=z/\z<=255):Fn Tryz.prog 9 [dgA s m L, .int .u8 z] (.bool true):=by
 have hA:=Tl;have hF:=J2 s m L;have hd:=JN;cases hf:zK s m L with
 |false=>
  rw [hf] at hF;refine Fn.intro [.tmp 4] Tryz.func9 rfl rfl (by decide) (by simp [Tryz.ntmps9]) ?_;rw [Tryz.ntmps9]
  repeat' (first|omega|(first|apply aj|(refine an.intro (id:=6) [[51,10,11],[50,10,11],[50,51,11],[50,51,10],[51],[]] [[],[0],[0,1],[0,1,2],[1],[]] (by decide+kernel) mixed ?_)|(refine an.av (id:=6) (oD) (by decide+kernel) mixed ?_)|(refine an.intro (id:=8) [[59],[58],[59],[]] [[],[0],[1],[]] (by decide+kernel) mixed ?_)|(refine an.av (id:=8) (oC) (by decide+kernel) mixed ?_)|(refine an.intro (id:=14) oB [[],[],[0,1],[],[],[0,1,2,3,4],[0,1,2,3,4,5],[5],[],[],[]] (by decide+kernel) mixed ?_)|skip);simp only [go_sem,sevalprocAttr,hA,↓reduceIte,reduceCtorEq,oD,oC,oB]|(refine ⟨az.fn (r:=?_) rfl ?_ ?_⟩;rotate_left;assumption)|(refine ⟨cg.fn (r:=?_) rfl ?_ ?_⟩;rotate_left;assumption)|apply ag<;>(intro h_;(try simp only [h_]);revert h_)|apply ah|apply ai|apply ae|apply And.intro|with_reducible intro h_|trivial|simp only [go_sem,ak];omega)
 |true=>
 rw [hf] at hF;by_cases h0:s.length=0
 ·have b0:((s.length:Int)==0)=true:=by rw [beq_iff_eq];omega
  refine Fn.intro [.tmp 4] Tryz.func9 rfl rfl (by decide) (by simp [Tryz.ntmps9]) ?_;rw [Tryz.ntmps9]
  repeat' (first|omega|(first|apply aj|(refine an.intro (id:=6) [[51,10,11],[50,10,11],[50,51,11],[50,51,10],[51],[]] [[],[0],[0,1],[0,1,2],[1],[]] (by decide+kernel) mixed ?_)|(refine an.av (id:=6) (oD) (by decide+kernel) mixed ?_)|(refine an.intro (id:=8) [[59],[58],[59],[]] [[],[0],[1],[]] (by decide+kernel) mixed ?_)|(refine an.av (id:=8) (oC) (by decide+kernel) mixed ?_)|(refine an.intro (id:=14) oB [[],[],[0,1],[],[],[0,1,2,3,4],[0,1,2,3,4,5],[5],[],[],[]] (by decide+kernel) mixed ?_)|skip);simp only [go_sem,sevalprocAttr,b0,↓reduceIte,reduceCtorEq,oD,oC,oB]|(refine ⟨az.fn (r:=?_) rfl ?_ ?_⟩;rotate_left;assumption)|(refine ⟨cg.fn (r:=?_) rfl ?_ ?_⟩;rotate_left;assumption)|apply ag<;>(intro h_;(try simp only [h_]);revert h_)|apply ah|apply ai|apply ae|apply And.intro|with_reducible intro h_|trivial|simp only [go_sem,ak];omega)
 have b0:((s.length:Int)==0)=false:=by rw [beq_eq_false_iff_ne];omega
 obtain ⟨hs,l,rfl,hl,hv,aw⟩:=VQ hf;have v1:=jC hv;have hp:=fA hv;have hw:=zQ v1.sg s.length (Nat.le_refl _);obtain ⟨c,hc⟩: ∃c:Nat,z.tmod s.length=c:=⟨(z % s.length).toNat,by rw [Int.tmod_eq_emod_of_nonneg hz.1];have:=Int.emod_nonneg z (show (s.length:Int)≠0 by omega);omega⟩;have bC:c<s.length:=by
  rw [Int.tmod_eq_emod_of_nonneg hz.1] at hc
  have:=Int.emod_lt_of_pos z (show (0:Int)<s.length by omega);omega
 have w1:IntKind.i64.wrap z=z:=IntWalk.i64_in _ (by omega);have zf:=Sp.lh hv bC;have RG:(oI s c).length=s.length:=Sp.jk;have tj:=fA zf;rw [RG] at tj;obtain ⟨l',qH⟩: ∃l':Nat,lu s m c l=l':=⟨(lu s m c l).toNat,by have:=Sp.lv (m:=m) (b:=(s.getD c 0== -1)) (c:=c) (n:=s.length);unfold lu;omega⟩
 have zq:l'<=11:=by have:=Sp.lv (m:=m) (b:=(s.getD c 0== -1)) (c:=c) (n:=s.length);unfold lu at qH;omega
 obtain ⟨wW,kU⟩:=Sp.gB hv bC (by omega);rw [qH] at wW;have Fj:=fA wW;rw [kU] at Fj;have xm: ¬(s.length-1=0/\l'=0):=by
  rintro ⟨e1,e2⟩;obtain rfl:c=0:=by omega
  have:=Sp.tX (m:=m) (b:=(s.getD 0 0== -1))
  unfold lu at qH;rw [show s.length=1 by omega] at qH;omega
 have YK:=WK s m l c (by omega) (by omega) hv;rw [show zH s (· ==(c:Int))=oI s c from rfl,show C5 s m (· ==(c:Int))=ka s m c from rfl] at YK;have YL:=Wq s m l c bC (by omega) hv _ rfl;rw [show dZ s c s.length=nV s c from rfl,show bO (cV m (s.getD c 0== -1) c (4*s.length)) c s.length=nE s m c from rfl,show (l:Int)+jl m (s.getD c 0== -1) c s.length=(l':Int) from qH] at YL
 have hP:=Aw s m l hs (by omega) hv aw;have hX:=Aw (oI s c) (ka s m c) l (by omega) (by omega) zf (by omega);have hY:=Aw (nV s c) (nE s m c) l' (by omega) (by omega) wW (by rw [kU];exact xm);rw [RG,Jf bC] at hX;rw [kU,QC bC] at hY;obtain ⟨Q,q1,q2⟩:=Vk hv bC rfl qH (by omega);have hZ:decide (0<=(c:Int))=true:=by simp
 have lO:decide ((c:Int)<s.length)=true:=by rw [decide_eq_true_iff];omega
 have BQ:=zQ (jC wW).sg (s.length-1) (by rw [kU];exact Nat.le_refl _);rw [QC bC] at BQ
 have key: ∃sp mp sn mn p q r P M R,Fn Tryz.prog 23 [dgA sp mp l] (.tup [plA false p,I 0])/\Fn Tryz.prog 23 [dgA sn mn l] (.tup [plA false q,I 0])/\
   Fn Tryz.prog 23 [dgA (nV s c) (nE s m c) l'] (.tup [plA false r,I 0])/\R.length<=1000000/\Fn Tryz.prog 38 [plA false p,I 4] (plA false P)/\Fn Tryz.prog 38 [plA false q,I (-4)] (plA false M)/\
   Fn Tryz.prog 49 [plA false P,plA false M] (plA false R)/\Fn Tryz.prog 16 [plA false r,plA false [(-2,1),(2,-1)]] (plA false R)/\
   ((s.getD c 0=1/\sp=s/\mp=m/\sn=oI s c/\mn=ka s m c)\/(s.getD c 0= -1/\sp=oI s c/\mp=ka s m c/\sn=s/\mn=m)):=by
  rcases v1.sg c bC with h|h
  ·have q:=q1 h;obtain ⟨P,M,R,r0,r1,r2,r3,r4⟩:=N5 (w:=b8 s s.length-s.getD c 0) hp tj Fj (by rw [(fA wW).ok.1,kU]) hs (by omega) (show l<=20 by omega) (show l'<=20 by omega) (by omega) xm (fun e=>(q e).1) (fun e=>(q e).2);rw [h] at r1 r2 r4 hX hY;rw [show b8 s s.length-1+1=b8 s s.length by omega] at r1;rw [show b8 s s.length-1-1=b8 s s.length-2*1 by omega] at r2
   exact ⟨_,_,_,_,_,_,_,P,M,R,hP,hX,hY,r0,r1,r2,r3,r4, .inl ⟨h,rfl,rfl,rfl,rfl⟩⟩
  ·have q:=q2 h;obtain ⟨P,M,R,r0,r1,r2,r3,r4⟩:=N5 (w:=b8 s s.length-s.getD c 0) tj hp Fj (by rw [(fA wW).ok.1,kU]) hs (by omega) (show l<=20 by omega) (show l'<=20 by omega) (by omega) xm (fun e=>(q e).1) (fun e=>(q e).2);rw [h] at r1 r2 r4 hX hY;rw [show b8 s s.length- -1+1=b8 s s.length-2* -1 by omega] at r1;rw [show b8 s s.length- -1-1=b8 s s.length by omega] at r2
   exact ⟨_,_,_,_,_,_,_,P,M,R,hX,hP,hY,r0,r1,r2,r3,r4, .inr ⟨h,rfl,rfl,rfl,rfl⟩⟩
 clear q1 q2 BQ wW Fj zf tj qH hP hX hY;generalize oI s c=sx at*;generalize ka s m c=mx at*;generalize nV s c=sy at*;generalize nE s m c=my at*;obtain ⟨sp,mp,sn,mn,p,q,r,P,M,R,hP,hQ,hY,r0,r1,r2,r3,r4,gO⟩:=key;have hE:=Vh R r0;have dq:c<s.length:=bC;refine Fn.intro [.tmp 4] Tryz.func9 rfl rfl (by decide) (by simp [Tryz.ntmps9]) ?_;rw [Tryz.ntmps9]
 repeat' (first|omega|(try apply aj);simp only [go_sem,sevalprocAttr,b0,w1,hc]|(refine ⟨az.fn (r:=?_) rfl ?_ ?_⟩;rotate_left;assumption)|(refine ⟨cg.fn (r:=?_) rfl ?_ ?_⟩;rotate_left;assumption)|apply ag<;>(intro h_;(try simp only [h_]);revert h_)|apply ah|apply ai|apply ae|apply And.intro|with_reducible intro h_|trivial|simp only [go_sem,ak];omega)
 refine an.cut [(11, .ptr 4 0),(10, .ptr 3 0),(9,I 0),(8, .ptr 2 0),(7,I 0),(6, .ptr 1 0),(5,I c),(2, .ptr 0 0)] [(4, .cells 24 (.lst [roI sx,roI mx,I l])),(3, .cells 24 (.lst [roI s,roI m,I l])),(2, .cells 24 (.lst [roI sy,roI my,I l'])),(1, .cells 24 (.lst [roI sx,roI mx,I l])),(0, .cells 24 (.lst [roI s,roI m,I l]))] ?_ ?_
 ·repeat' (first|omega|(first|apply aj|(refine an.intro (id:=6) [[51,10,11],[50,10,11],[50,51,11],[50,51,10],[51],[]] [[],[0],[0,1],[0,1,2],[1],[]] (by decide+kernel) mixed ?_)|(refine an.av (id:=6) (oD) (by decide+kernel) mixed ?_)|(refine an.intro (id:=8) [[59],[58],[59],[]] [[],[0],[1],[]] (by decide+kernel) mixed ?_)|(refine an.av (id:=8) (oC) (by decide+kernel) mixed ?_)|(refine an.intro (id:=14) oB [[],[],[0,1],[],[],[0,1,2,3,4],[0,1,2,3,4,5],[5],[],[],[]] (by decide+kernel) mixed ?_)|skip);simp only [go_sem,sevalprocAttr,b0,↓reduceIte,reduceCtorEq,oD,oC,oB]|apply ag<;>(intro h_;(try simp only [h_]);revert h_)|apply ah|apply ai|apply ae|apply And.intro|with_reducible intro h_|trivial|simp only [go_sem,ak];omega)
  all_goals first
   |(refine Wk.sub ?_ ?_<;>(simp only [go_sem,sevalprocAttr])<;>done)
   |(refine Wk.tT 3 4 (fr1:=[(11, .ptr 3 0),(10, .ptr 4 0),(9,I 0),(8, .ptr 2 0),(7,I 0),(6, .ptr 1 0),(5,I c),(2, .ptr 0 0)]) (H1:=[(3, .cells 24 (.lst [roI sx,roI mx,I l])),(4, .cells 24 (.lst [roI s,roI m,I l])),(2, .cells 24 (.lst [roI sy,roI my,I l'])),(1, .cells 24 (.lst [roI sx,roI mx,I l])),(0, .cells 24 (.lst [roI s,roI m,I l]))]) ?_ ?_ ?_ ?_ ?_ ?_<;>(simp only [go_sem,sevalprocAttr]))
 refine gq.Md [(11, .ptr 4 0),(10, .ptr 3 0),(9,I 0),(8, .ptr 2 0),(7,I 0),(5,I c),(2, .ptr 0 0)] [(4, .cells 24 (.lst [roI sn,roI mn,I l])),(3, .cells 24 (.lst [roI sp,roI mp,I l])),(2, .cells 24 (.lst [roI sy,roI my,I l'])),(0, .cells 24 (.lst [roI s,roI m,I l]))] ?_ ?_
 ·rcases gO with ⟨hg,rfl,rfl,rfl,rfl⟩|⟨hg,rfl,rfl,rfl,rfl⟩
  ·have bg:decide ((1:Int)<0)=false:=by decide
   repeat' (first|omega|(first|apply aj|(refine an.intro (id:=6) [[51,10,11],[50,10,11],[50,51,11],[50,51,10],[51],[]] [[],[0],[0,1],[0,1,2],[1],[]] (by decide+kernel) mixed ?_)|(refine an.av (id:=6) (oD) (by decide+kernel) mixed ?_)|(refine an.intro (id:=8) [[59],[58],[59],[]] [[],[0],[1],[]] (by decide+kernel) mixed ?_)|(refine an.av (id:=8) (oC) (by decide+kernel) mixed ?_)|(refine an.intro (id:=14) oB [[],[],[0,1],[],[],[0,1,2,3,4],[0,1,2,3,4,5],[5],[],[],[]] (by decide+kernel) mixed ?_)|skip);simp only [go_sem,sevalprocAttr,hg,bg,↓reduceIte,reduceCtorEq,oD,oC,oB]|apply ag<;>(intro h_;(try simp only [h_]);revert h_)|apply ah|apply ai|apply ae|apply And.intro|with_reducible intro h_|trivial|simp only [go_sem,ak];omega)
   all_goals (refine Wk.sub ?_ ?_<;>(simp only [go_sem,sevalprocAttr]))
  ·have bg:decide ((-1:Int)<0)=true:=by decide
   repeat' (first|omega|(first|apply aj|(refine an.intro (id:=6) [[51,10,11],[50,10,11],[50,51,11],[50,51,10],[51],[]] [[],[0],[0,1],[0,1,2],[1],[]] (by decide+kernel) mixed ?_)|(refine an.av (id:=6) (oD) (by decide+kernel) mixed ?_)|(refine an.intro (id:=8) [[59],[58],[59],[]] [[],[0],[1],[]] (by decide+kernel) mixed ?_)|(refine an.av (id:=8) (oC) (by decide+kernel) mixed ?_)|(refine an.intro (id:=14) oB [[],[],[0,1],[],[],[0,1,2,3,4],[0,1,2,3,4,5],[5],[],[],[]] (by decide+kernel) mixed ?_)|skip);simp only [go_sem,sevalprocAttr,hg,bg,↓reduceIte,reduceCtorEq,oD,oC,oB]|apply ag<;>(intro h_;(try simp only [h_]);revert h_)|apply ah|apply ai|apply ae|apply And.intro|with_reducible intro h_|trivial|simp only [go_sem,ak];omega)
   all_goals (refine Wk.sub ?_ ?_<;>(simp only [go_sem,sevalprocAttr]))
 repeat' (first|omega|(try apply aj);simp only [go_sem,sevalprocAttr,b0]|(refine ⟨az.fn (r:=?_) rfl ?_ ?_⟩;rotate_left;assumption)|(refine ⟨cg.fn (r:=?_) rfl ?_ ?_⟩;rotate_left;assumption)|apply ag<;>(intro h_;(try simp only [h_]);revert h_)|apply ah|apply ai|apply ae|apply And.intro|with_reducible intro h_|trivial|simp only [go_sem,ak];omega)
 repeat' (first|omega|(first|apply aj|(refine an.intro (id:=6) [[51,10,11],[50,10,11],[50,51,11],[50,51,10],[51],[]] [[],[0],[0,1],[0,1,2],[1],[]] (by decide+kernel) mixed ?_)|(refine an.av (id:=6) (oD) (by decide+kernel) mixed ?_)|(refine an.intro (id:=8) [[59],[58],[59],[]] [[],[0],[1],[]] (by decide+kernel) mixed ?_)|(refine an.av (id:=8) (oC) (by decide+kernel) mixed ?_)|(refine an.intro (id:=14) oB [[],[],[0,1],[],[],[0,1,2,3,4],[0,1,2,3,4,5],[5],[],[],[]] (by decide+kernel) mixed ?_)|skip);simp only [go_sem,sevalprocAttr,b0,↓reduceIte,reduceCtorEq,oD,oC,oB]|(refine ⟨az.fn (r:=?_) rfl ?_ ?_⟩;rotate_left;assumption)|(refine ⟨cg.fn (r:=?_) rfl ?_ ?_⟩;rotate_left;assumption)|apply ag<;>(intro h_;(try simp only [h_]);revert h_)|apply ah|apply ai|apply ae|apply And.intro|with_reducible intro h_|trivial|simp only [go_sem,ak];omega)
 all_goals (
  refine ⟨cg.new (h:=hd) rfl (by simp only [go_sem,sevalprocAttr]) (by simp only [go_sem,sevalprocAttr];try rfl) ?_⟩;simp only [go_sem,sevalprocAttr]
  repeat' (first|omega|(first|apply aj|(refine an.intro (id:=6) [[51,10,11],[50,10,11],[50,51,11],[50,51,10],[51],[]] [[],[0],[0,1],[0,1,2],[1],[]] (by decide+kernel) mixed ?_)|(refine an.av (id:=6) (oD) (by decide+kernel) mixed ?_)|(refine an.intro (id:=8) [[59],[58],[59],[]] [[],[0],[1],[]] (by decide+kernel) mixed ?_)|(refine an.av (id:=8) (oC) (by decide+kernel) mixed ?_)|(refine an.intro (id:=14) oB [[],[],[0,1],[],[],[0,1,2,3,4],[0,1,2,3,4,5],[5],[],[],[]] (by decide+kernel) mixed ?_)|skip);simp only [go_sem,sevalprocAttr,b0,↓reduceIte,reduceCtorEq,oD,oC,oB]|(refine ⟨az.fn (r:=?_) rfl ?_ ?_⟩;rotate_left;assumption)|(refine ⟨cg.fn (r:=?_) rfl ?_ ?_⟩;rotate_left;assumption)|apply ag<;>(intro h_;(try simp only [h_]);revert h_)|apply ah|apply ai|apply ae|apply And.intro|with_reducible intro h_|trivial|simp only [go_sem,ak];omega))
end Go.Proofs.YtphjphpmfflfpaaGreatDoor
