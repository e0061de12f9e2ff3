import Derived.Test.YthohfoombimbeaaGreatDoorMw9
import Derived.Test.YthohfoombimbeaaGreatDoorMw11
import Derived.Test.YthohfoombimbeaaGreatDoorMw14
import Derived.Test.YthohfoombimbeaaGreatDoorZm
namespace Go.Proofs.YthohfoombimbeaaGreatDoor
open Go Go.RowKit
set_option maxRecDepth 99999
set_option maxHeartbeats 8000000
set_option linter.unusedVariables false
set_option linter.unusedSimpArgs false
def Ez:Hy:=[(22,[[85],[84],[85],[],[]],[[],[0,1,1000002,1000003],[1],[],[]],[4,5])]
def Ey:fc:=[(22,[[85],[84],[85],[],[]],[[],[0],[1],[],[]])]
def EA:fc:=[(17,[[65],[65],[63,64],[],[],[68,69],[67,69],[67,68],[68,69],[69],[]],[[],[],[0,1],[],[],[],[5],[5,6],[6,7],[7],[]])]++Ey
def A5:wV:=[(22,.node [(0,.node [(1,trD [2,3,4]),(2,trD [1,3,4])]),(1,trD [0,2,3,4])])]
theorem y4j(s m:List Int)(L k x y g:Int)(ov:Bool):
  ∃(r inv:AV) (e:Int),Fn Tryz.prog 6 [dgA s m L,ei k x y g ov] (.tup [r,inv,I e])/\(e≠0->r=qb)/\(∃k x y g b,inv=ei k x y g b)/\(e=0->bG s m L=true/\ ∃s' m' L',∃kn:Nat,∃sg:Int,r=dgA s' m' L'/\(kn:Int)=k/\Hs.gN s m L kn sg s' m' L'/\(kn=1->sg=g)/\(kn=2->0<=x/\x<s.length/\sg=s.getD x.toNat 0)):=by
 rcases Bool.eq_false_or_eq_true (bG s m L) with hv|hv
 rotate_left
 ·have hV:=C4 s m L;rw[hv]at hV;refine⟨qb,ei 0 0 0 0 false,1,?_,fun _=>rfl,⟨_,_,_,_,_,rfl⟩,fun h=>by omega⟩;refine Fn.av [.cell 4 24,.cell 5 26,.tmp 6] Tryz.func6 rfl rfl (by decide) (by simp[Tryz.ntmps6]) ?_;rw[Tryz.ntmps6]
  repeat' (first|omega|(try apply ah);simp only[go_sem,zA]|refine az ?_|refine aA ?_|apply ag<;>(intro h_;(try simp only[h_]);revert h_)|apply zO|with_reducible intro h_|trivial)
  all_goals exact aT.refl _
 have hV:=C4 s m L;rw[hv]at hV;have v1:=gP hv;have fM:=v1.s64;by_cases hk:1<=k/\k<=5
 rotate_left
 ·refine⟨qb,ei 0 0 0 0 false,11,?_,fun _=>rfl,⟨_,_,_,_,_,rfl⟩,fun h=>by omega⟩;by_cases k1:k<1
  ·have b1:decide (k<1)=true:=decide_eq_true k1;refine Fn.av [.cell 4 24,.cell 5 26,.tmp 6] Tryz.func6 rfl rfl (by decide) (by simp[Tryz.ntmps6]) ?_;rw[Tryz.ntmps6]
   repeat' (first|omega|(try apply ah);simp only[go_sem,b1]|refine az ?_|refine aA ?_|apply ag<;>(intro h_;(try simp only[h_]);revert h_)|apply zO|with_reducible intro h_|trivial)
   all_goals exact aT.refl _
  ·have b1:decide (k<1)=false:=decide_eq_false k1;have b2:decide (5<k)=true:=decide_eq_true (by omega);refine Fn.av [.cell 4 24,.cell 5 26,.tmp 6] Tryz.func6 rfl rfl (by decide) (by simp[Tryz.ntmps6]) ?_;rw[Tryz.ntmps6]
   repeat' (first|omega|(try apply ah);simp only[go_sem,b1,b2]|refine az ?_|refine aA ?_|apply ag<;>(intro h_;(try simp only[h_]);revert h_)|apply zO|with_reducible intro h_|trivial)
   all_goals exact aT.refl _
 obtain⟨b,hR,hb⟩:=X2 s.length k x y g ov fM hk.1 hk.2;have b1:decide (k<1)=false:=decide_eq_false (by omega);have b2:decide (5<k)=false:=decide_eq_false (by omega);rcases Bool.eq_false_or_eq_true b with h0|h0
 rotate_left
 ·subst h0;refine⟨qb,ei 0 0 0 0 false,2,?_,fun _=>rfl,⟨_,_,_,_,_,rfl⟩,fun h=>by omega⟩;refine Fn.av [.cell 4 24,.cell 5 26,.tmp 6] Tryz.func6 rfl rfl (by decide) (by simp[Tryz.ntmps6]) ?_;rw[Tryz.ntmps6]
  repeat' (first|omega|(try apply ah);simp only[go_sem,b1,b2]|refine az ?_|refine aA ?_|apply ag<;>(intro h_;(try simp only[h_]);revert h_)|apply zO|with_reducible intro h_|trivial)
  all_goals exact aT.refl _
 subst h0;obtain⟨h1,h2,h4,h5,h3⟩:=hb rfl;clear hb;rcases (show k=1\/k=2\/k=3\/k=4\/k=5 by omega) with rfl|rfl|rfl|rfl|rfl
 ·obtain⟨x0,x1,hg⟩:=h1 rfl;obtain⟨r,inv,e,hF,hM,hr,k',x',y',g',b',rfl⟩:=y7c s m L 1 x y g ov hv x0 x1 hg;by_cases e0:e=0
  ·subst e0;obtain⟨s',m',L',rfl,hm⟩:=hM rfl;refine⟨_,ei k' x' y' g' b',0,?_,fun h=>zzA rfl h,⟨k',x',y',g',b',rfl⟩,fun _=>⟨hv,s',m',L',1,g,rfl,rfl,hm,fun _=>rfl,fun h=>by omega⟩⟩;refine Fn.av [.cell 4 24,.cell 5 26,.tmp 6] Tryz.func6 rfl rfl (by decide) (by simp[Tryz.ntmps6]) ?_;rw[Tryz.ntmps6]
   repeat' (first|omega|(try apply ah);simp only[go_sem,zA]|refine az ?_|refine aA ?_|apply ag<;>(intro h_;(try simp only[h_]);revert h_)|apply zO|with_reducible intro h_|trivial)
   repeat' (first|omega|(first|apply ah|refine aw EA ?_|refine vi Ez [4,5] [2,3] rfl (by simp only[go_sem,zA]) (by simp only[go_sem,zA]) ?_|refine aw Ey ?_|refine gH A5 ?_|skip);simp only[go_sem,zA]|refine az ?_|refine aA ?_|apply ag<;>(intro h_;(try simp only[h_]);revert h_)|apply zO|with_reducible intro h_|trivial)
   repeat' (first|omega|(try apply ah);simp only[go_sem,zA]|refine az ?_|refine aA ?_|apply ag<;>(intro h_;(try simp only[h_]);revert h_)|apply zO|with_reducible intro h_|trivial)
   all_goals exact aT.refl _
  ·have b0:(e !=0)=true:=by simpa [bne] using e0
   obtain rfl:=hr e0;refine⟨qb,ei 0 0 0 0 false,e,?_,fun _=>rfl,⟨_,_,_,_,_,rfl⟩,fun h=>zzA h e0⟩;refine Fn.av [.cell 4 24,.cell 5 26,.tmp 6] Tryz.func6 rfl rfl (by decide) (by simp[Tryz.ntmps6]) ?_;rw[Tryz.ntmps6]
   repeat' (first|omega|(try apply ah);simp only[go_sem,b0,zA]|refine az ?_|refine aA ?_|apply ag<;>(intro h_;(try simp only[h_]);revert h_)|apply zO|with_reducible intro h_|trivial)
   all_goals exact aT.refl _
 ·obtain⟨x0,xn,hg⟩:=h2 rfl;obtain⟨c,rfl⟩:∃c:Nat,x=c:=⟨x.toNat,by omega⟩;obtain⟨r,inv,e,hF,hM,hr,k',x',y',g',b',rfl⟩:=y00 s m L 2 y g ov c hv (by omega);by_cases e0:e=0
  ·subst e0;obtain⟨s',m',L',rfl,hm,_⟩:=hM rfl;refine⟨_,ei k' x' y' g' b',0,?_,fun h=>zzA rfl h,⟨k',x',y',g',b',rfl⟩,fun _=>⟨hv,s',m',L',2,_,rfl,rfl,hm,fun h=>by omega,fun _=>⟨x0,xn,by rw[zD]⟩⟩⟩;refine Fn.av [.cell 4 24,.cell 5 26,.tmp 6] Tryz.func6 rfl rfl (by decide) (by simp[Tryz.ntmps6]) ?_;rw[Tryz.ntmps6]
   repeat' (first|omega|(try apply ah);simp only[go_sem,zA]|refine az ?_|refine aA ?_|apply ag<;>(intro h_;(try simp only[h_]);revert h_)|apply zO|with_reducible intro h_|trivial)
   repeat' (first|omega|(first|apply ah|refine aw EA ?_|refine vi Ez [4,5] [2,3] rfl (by simp only[go_sem,zA]) (by simp only[go_sem,zA]) ?_|refine aw Ey ?_|refine gH A5 ?_|skip);simp only[go_sem,zA]|refine az ?_|refine aA ?_|apply ag<;>(intro h_;(try simp only[h_]);revert h_)|apply zO|with_reducible intro h_|trivial)
   repeat' (first|omega|(try apply ah);simp only[go_sem,zA]|refine az ?_|refine aA ?_|apply ag<;>(intro h_;(try simp only[h_]);revert h_)|apply zO|with_reducible intro h_|trivial)
   all_goals exact aT.refl _
  ·have b0:(e !=0)=true:=by simpa [bne] using e0
   obtain rfl:=hr e0;refine⟨qb,ei 0 0 0 0 false,e,?_,fun _=>rfl,⟨_,_,_,_,_,rfl⟩,fun h=>zzA h e0⟩;refine Fn.av [.cell 4 24,.cell 5 26,.tmp 6] Tryz.func6 rfl rfl (by decide) (by simp[Tryz.ntmps6]) ?_;rw[Tryz.ntmps6]
   repeat' (first|omega|(try apply ah);simp only[go_sem,b0,zA]|refine az ?_|refine aA ?_|apply ag<;>(intro h_;(try simp only[h_]);revert h_)|apply zO|with_reducible intro h_|trivial)
   all_goals exact aT.refl _
 ·obtain⟨x0,xn,y0,yn,g1,g2,g3⟩:=h3 rfl;obtain⟨lf,pt,l1,l2,hS,l3,l4⟩:=y1a s m L hv;obtain⟨r,inv,e,hF,hM,hr,k',x',y',g',b',rfl⟩:=y74 s m L lf pt 3 x y g ov hv l1 l2 x0 xn y0 yn g1 g2 g3 l3 l4;by_cases e0:e=0
  ·subst e0;obtain⟨s',m',L',rfl,hm⟩:=hM rfl;refine⟨_,ei k' x' y' g' b',0,?_,fun h=>zzA rfl h,⟨k',x',y',g',b',rfl⟩,fun _=>⟨hv,s',m',L',3,_,rfl,rfl,hm,fun h=>by omega,fun h=>by omega⟩⟩;refine Fn.av [.cell 4 24,.cell 5 26,.tmp 6] Tryz.func6 rfl rfl (by decide) (by simp[Tryz.ntmps6]) ?_;rw[Tryz.ntmps6]
   repeat' (first|omega|(try apply ah);simp only[go_sem,zA]|refine az ?_|refine aA ?_|apply ag<;>(intro h_;(try simp only[h_]);revert h_)|apply zO|with_reducible intro h_|trivial)
   repeat' (first|omega|(first|apply ah|refine aw EA ?_|refine gH A5 ?_|skip);simp only[go_sem,zA]|refine az ?_|refine aA ?_|apply ag<;>(intro h_;(try simp only[h_]);revert h_)|apply zO|with_reducible intro h_|trivial)
   repeat' (first|omega|(first|apply ah|refine aw EA ?_|refine vi Ez [4,5] [2,3] rfl (by simp only[go_sem,zA]) (by simp only[go_sem,zA]) ?_|refine aw Ey ?_|refine gH A5 ?_|skip);simp only[go_sem,zA]|refine az ?_|refine aA ?_|apply ag<;>(intro h_;(try simp only[h_]);revert h_)|apply zO|with_reducible intro h_|trivial)
   repeat' (first|omega|(try apply ah);simp only[go_sem,zA]|refine az ?_|refine aA ?_|apply ag<;>(intro h_;(try simp only[h_]);revert h_)|apply zO|with_reducible intro h_|trivial)
   all_goals exact aT.refl _
  ·have b0:(e !=0)=true:=by simpa [bne] using e0
   obtain rfl:=hr e0;refine⟨qb,ei 0 0 0 0 false,e,?_,fun _=>rfl,⟨_,_,_,_,_,rfl⟩,fun h=>zzA h e0⟩;refine Fn.av [.cell 4 24,.cell 5 26,.tmp 6] Tryz.func6 rfl rfl (by decide) (by simp[Tryz.ntmps6]) ?_;rw[Tryz.ntmps6]
   repeat' (first|omega|(try apply ah);simp only[go_sem,zA]|refine az ?_|refine aA ?_|apply ag<;>(intro h_;(try simp only[h_]);revert h_)|apply zO|with_reducible intro h_|trivial)
   repeat' (first|omega|(first|apply ah|refine aw EA ?_|refine gH A5 ?_|skip);simp only[go_sem,b0,zA]|refine az ?_|refine aA ?_|apply ag<;>(intro h_;(try simp only[h_]);revert h_)|apply zO|with_reducible intro h_|trivial)
   all_goals exact aT.refl _
 ·obtain⟨x0,xy,yn,hg⟩:=h4 rfl;obtain⟨lo,rfl⟩:∃c:Nat,x=c:=⟨x.toNat,by omega⟩;obtain⟨hi,rfl⟩:∃c:Nat,y=c:=⟨y.toNat,by omega⟩;obtain⟨r,inv,e,hF,hM,hr,k',x',y',g',b',rfl⟩:=y05 s m L 4 g ov lo hi hv (by omega) (by omega);by_cases e0:e=0
  ·subst e0;obtain⟨s',m',L',rfl,hm⟩:=hM rfl;refine⟨_,ei k' x' y' g' b',0,?_,fun h=>zzA rfl h,⟨k',x',y',g',b',rfl⟩,fun _=>⟨hv,s',m',L',4,_,rfl,rfl,hm,fun h=>by omega,fun h=>by omega⟩⟩;refine Fn.av [.cell 4 24,.cell 5 26,.tmp 6] Tryz.func6 rfl rfl (by decide) (by simp[Tryz.ntmps6]) ?_;rw[Tryz.ntmps6]
   repeat' (first|omega|(try apply ah);simp only[go_sem,zA]|refine az ?_|refine aA ?_|apply ag<;>(intro h_;(try simp only[h_]);revert h_)|apply zO|with_reducible intro h_|trivial)
   repeat' (first|omega|(first|apply ah|refine aw EA ?_|refine vi Ez [4,5] [2,3] rfl (by simp only[go_sem,zA]) (by simp only[go_sem,zA]) ?_|refine aw Ey ?_|refine gH A5 ?_|skip);simp only[go_sem,zA]|refine az ?_|refine aA ?_|apply ag<;>(intro h_;(try simp only[h_]);revert h_)|apply zO|with_reducible intro h_|trivial)
   repeat' (first|omega|(try apply ah);simp only[go_sem,zA]|refine az ?_|refine aA ?_|apply ag<;>(intro h_;(try simp only[h_]);revert h_)|apply zO|with_reducible intro h_|trivial)
   all_goals exact aT.refl _
  ·have b0:(e !=0)=true:=by simpa [bne] using e0
   obtain rfl:=hr e0;refine⟨qb,ei 0 0 0 0 false,e,?_,fun _=>rfl,⟨_,_,_,_,_,rfl⟩,fun h=>zzA h e0⟩;refine Fn.av [.cell 4 24,.cell 5 26,.tmp 6] Tryz.func6 rfl rfl (by decide) (by simp[Tryz.ntmps6]) ?_;rw[Tryz.ntmps6]
   repeat' (first|omega|(try apply ah);simp only[go_sem,b0,zA]|refine az ?_|refine aA ?_|apply ag<;>(intro h_;(try simp only[h_]);revert h_)|apply zO|with_reducible intro h_|trivial)
   all_goals exact aT.refl _
 ·obtain⟨x0,xn,hg⟩:=h5 rfl;obtain⟨h,rfl⟩:∃c:Nat,x=c:=⟨x.toNat,by omega⟩;obtain⟨r,inv,e,hF,hM,hr,k',x',y',g',b',rfl⟩:=y4e s m L 5 y g ov h hv (by omega);by_cases e0:e=0
  ·subst e0;obtain⟨s',m',L',rfl,hm⟩:=hM rfl;refine⟨_,ei k' x' y' g' b',0,?_,fun h=>zzA rfl h,⟨k',x',y',g',b',rfl⟩,fun _=>⟨hv,s',m',L',5,_,rfl,rfl,hm,fun h=>by omega,fun h=>by omega⟩⟩;refine Fn.av [.cell 4 24,.cell 5 26,.tmp 6] Tryz.func6 rfl rfl (by decide) (by simp[Tryz.ntmps6]) ?_;rw[Tryz.ntmps6]
   repeat' (first|omega|(try apply ah);simp only[go_sem,zA]|refine az ?_|refine aA ?_|apply ag<;>(intro h_;(try simp only[h_]);revert h_)|apply zO|with_reducible intro h_|trivial)
   repeat' (first|omega|(first|apply ah|refine aw EA ?_|refine vi Ez [4,5] [2,3] rfl (by simp only[go_sem,zA]) (by simp only[go_sem,zA]) ?_|refine aw Ey ?_|refine gH A5 ?_|skip);simp only[go_sem,zA]|refine az ?_|refine aA ?_|apply ag<;>(intro h_;(try simp only[h_]);revert h_)|apply zO|with_reducible intro h_|trivial)
   repeat' (first|omega|(try apply ah);simp only[go_sem,zA]|refine az ?_|refine aA ?_|apply ag<;>(intro h_;(try simp only[h_]);revert h_)|apply zO|with_reducible intro h_|trivial)
   all_goals exact aT.refl _
  ·have b0:(e !=0)=true:=by simpa [bne] using e0
   obtain rfl:=hr e0;refine⟨qb,ei 0 0 0 0 false,e,?_,fun _=>rfl,⟨_,_,_,_,_,rfl⟩,fun h=>zzA h e0⟩;refine Fn.av [.cell 4 24,.cell 5 26,.tmp 6] Tryz.func6 rfl rfl (by decide) (by simp[Tryz.ntmps6]) ?_;rw[Tryz.ntmps6]
   repeat' (first|omega|(try apply ah);simp only[go_sem,b0,zA]|refine az ?_|refine aA ?_|apply ag<;>(intro h_;(try simp only[h_]);revert h_)|apply zO|with_reducible intro h_|trivial)
   all_goals exact aT.refl _
end Go.Proofs.YthohfoombimbeaaGreatDoor
