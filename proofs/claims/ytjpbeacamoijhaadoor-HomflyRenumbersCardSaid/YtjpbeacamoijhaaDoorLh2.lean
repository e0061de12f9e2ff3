/- Layer 20: the law HomflyRenumbers. -/
import Derived.Test.YtjpbeacamoijhaaDoorZva
import Derived.Test.YtjpbeacamoijhaaDoorRn1
import Derived.Test.YtjpbeacamoijhaaDoorRf9
import Derived.Test.YtjpbeacamoijhaaDoorZs
namespace Go.Proofs.YtjpbeacamoijhaaDoor
open Go Go.RowKit
set_option maxRecDepth 100000
set_option maxHeartbeats 8000000
set_option linter.unusedVariables false
set_option linter.unusedSimpArgs false
theorem y01 {o:List Int} {n:Nat} (hr: ∀i,i<n->0<=o.getD i 0/\o.getD i 0<n) (hd: ∀i j,i<n->j<n->o.getD i 0=o.getD j 0->i=j): ∀N,N<=n-> ∀i,i<N->nuB o n i=false
 |0,_,i,h=>by omega
 |N+1,hN,i,h=>by
  have ih:=y01 hr hd N (by omega)
  rcases Nat.lt_or_ge i N with hi|hi
  ·exact ih i hi
  obtain rfl:i=N:=by omega
  obtain ⟨h1,h2⟩:=yi8 o n i ih
  have hri:=hr i (by omega)
  unfold nuB
  rw [decide_eq_false (by omega),decide_eq_false (by omega),Bool.false_or,Bool.false_or,decide_eq_false_iff_not]
  rcases h1 (o.getD i 0).toNat (by omega) with h3|⟨j,h3,h4,h5⟩
  ·omega
  ·have:=hd i j (by omega) (by omega) (by have:=hr j (by omega);omega)
   omega
def rnO (n:Nat) (z:Int) (k:Nat):List Int:=(List.range k).map fun (c:Nat)=>((n:Int)-1-c+z)% n
theorem yk4 (n:Nat) (z:Int) (k:Nat):(rnO n z k).length=k:=by simp [rnO]
theorem y3i (n:Nat) (z:Int) (k:Nat):rnO n z (k+1)=rnO n z k++[((n:Int)-1-k+z)% n]:=by simp [rnO,List.range_succ]
theorem ysw {n:Nat} {z:Int} {k i:Nat} (h:i<k):(rnO n z k).getD i 0=((n:Int)-1-i+z)% n:=by simp [rnO,List.getD_eq_getElem?_getD,h]
theorem yj7 (s m:List Int) (L:Int) (z:Int) (hz:0<=z/\z<=255):Fn Tryd.prog 4 [dgA s m L, .int .u8 z] (.bool true):=by
 have hA:=yno
 have hG:=ysq s m L
 cases hg:smB s m L with
 |true=>
  rw [hg] at hG
  refine Fn.intro [.tmp 4] Tryd.func4 rfl rfl (by decide) (by simp [Tryd.ntmps4]) ?_;rw [Tryd.ntmps4]
  repeat' (first|omega|(try apply yaa);simp only [go_sem,sevalprocAttr,hA]|(refine ⟨yad.fn (r:=?_) rfl ?_ ?_⟩;rotate_left;assumption)|(refine ⟨yan.fn (r:=?_) rfl ?_ ?_⟩;rotate_left;assumption)|apply yab<;>(intro h_;(try simp only [h_]);revert h_)|apply And.intro|with_reducible intro h_|trivial|simp only [go_sem,la2];omega)
 |false=>
 rw [hg] at hG
 have hV:=ypm s m L
 cases hv:yai s m L with
 |false=>
  rw [hv] at hV
  refine Fn.intro [.tmp 4] Tryd.func4 rfl rfl (by decide) (by simp [Tryd.ntmps4]) ?_;rw [Tryd.ntmps4]
  repeat' (first|omega|(try apply yaa);simp only [go_sem,sevalprocAttr,hA]|(refine ⟨yad.fn (r:=?_) rfl ?_ ?_⟩;rotate_left;assumption)|(refine ⟨yan.fn (r:=?_) rfl ?_ ?_⟩;rotate_left;assumption)|apply yab<;>(intro h_;(try simp only [h_]);revert h_)|apply And.intro|with_reducible intro h_|trivial|simp only [go_sem,la2];omega)
 |true=>
 rw [hv] at hV
 by_cases h0:s.length=0
 ·have b0:((s.length:Int)==0)=true:=by rw [beq_iff_eq];omega
  refine Fn.intro [.tmp 4] Tryd.func4 rfl rfl (by decide) (by simp [Tryd.ntmps4]) ?_;rw [Tryd.ntmps4]
  repeat' (first|omega|(try apply yaa);simp only [go_sem,sevalprocAttr,b0]|(refine ⟨yad.fn (r:=?_) rfl ?_ ?_⟩;rotate_left;assumption)|(refine ⟨yan.fn (r:=?_) rfl ?_ ?_⟩;rotate_left;assumption)|apply yab<;>(intro h_;(try simp only [h_]);revert h_)|apply And.intro|with_reducible intro h_|trivial|simp only [go_sem,la2];omega)
 have b0:((s.length:Int)==0)=false:=by rw [beq_eq_false_iff_ne];omega
 by_cases h6:6<s.length
 ·have b6:decide ((6:Int)<s.length)=true:=by rw [decide_eq_true_iff];omega
  refine Fn.intro [.tmp 4] Tryd.func4 rfl rfl (by decide) (by simp [Tryd.ntmps4]) ?_;rw [Tryd.ntmps4]
  repeat' (first|omega|(try apply yaa);simp only [go_sem,sevalprocAttr,b0,b6]|(refine ⟨yad.fn (r:=?_) rfl ?_ ?_⟩;rotate_left;assumption)|(refine ⟨yan.fn (r:=?_) rfl ?_ ?_⟩;rotate_left;assumption)|apply yab<;>(intro h_;(try simp only [h_]);revert h_)|apply And.intro|with_reducible intro h_|trivial|simp only [go_sem,la2];omega)
 have b6:decide ((6:Int)<s.length)=false:=by rw [decide_eq_false_iff_not];omega
 have v1:=yal hv
 have hl0:=v1.l0
 obtain ⟨l,rfl⟩: ∃l:Nat,L=l:=⟨L.toNat,by omega⟩
 have w1:IntKind.i64.wrap z=z:=IntWalk.i64_in _ (by omega)
 have hk:=ypk hg hv (by omega) (by omega)
 have hlen:=hk.len
 have hnu:=y01 (o:=rnO s.length z s.length) (n:=s.length) (fun i hi=>by
   rw [ysw hi]
   exact ⟨Int.emod_nonneg _ (by omega),Int.emod_lt_of_pos _ (by omega)⟩) (fun i j hi hj he=>by
   rw [ysw hi,ysw hj] at he
   have h1:=Int.emod_emod_of_dvd
   have h2:((s.length:Int)-1-i+z-((s.length:Int)-1-j+z))% s.length=0:=Int.emod_eq_emod_iff_emod_sub_eq_zero.1 he
   rw [show (s.length:Int)-1-i+z-((s.length:Int)-1-j+z)=(j:Int)-i by omega] at h2
   obtain ⟨q,hq⟩:=Int.dvd_of_emod_eq_zero h2
   have hq0:q=0:=by
    rcases Int.lt_trichotomy q 0 with h|h|h
    ·have:(s.length:Int)*q<=s.length*(-1):=Int.mul_le_mul_of_nonneg_left (by omega) (by omega)
     omega
    ·exact h
    ·have:(s.length:Int)*1<=s.length*q:=Int.mul_le_mul_of_nonneg_left (by omega) (by omega)
     omega
   rw [hq0,Int.mul_zero] at hq
   omega) s.length (Nat.le_refl _)
 have hol:=y00 (yk4 s.length z s.length) hnu
 have hR:=ytj s m l (rnO s.length z s.length) hv (yk4 _ _ _) hnu
 have vW:=yr9 hv hol
 have lW:(rnS s (fun i=>((rnO s.length z s.length).getD i 0).toNat) s.length).length=s.length:=by simp [rnS]
 have kW:yc8 _ _ l:=⟨vW,by rw [lW];omega,by rw [lW];omega,by rw [lW];exact hk.pos⟩
 have S0:=Hs.hfE_sup (yal hv)
 obtain ⟨P,hP⟩:=yc6 S0 (by omega)
 have pP:=yg6 hk hP
 have pW:=yg6 kW (hP.congr fun e=>(y26 hv hol (bvA e) (bvZ e)).symm)
 have hE:=ypl P (by have:=hP.lenB S0 (by omega);omega)
 have et: ∀k:Nat,k<s.length->((s.length:Int)-1-k+z).tmod s.length=((s.length:Int)-1-k+z)% s.length:=fun k hk=>Int.tmod_eq_emod_of_nonneg (by omega)
 have hR':=hR
 clear vW hol kW hnu
 generalize (rnS s (fun i=>((rnO s.length z s.length).getD i 0).toNat) s.length)=s' at*
 generalize (rnM m (fun i=>((rnO s.length z s.length).getD i 0).toNat) (fun c=>((nuL (rnO s.length z s.length) s.length s.length).getD c 0).toNat) s.length)=m' at*
 refine Fn.intro [.tmp 4] Tryd.func4 rfl rfl (by decide) (by simp [Tryd.ntmps4]) ?_;rw [Tryd.ntmps4]
 repeat' (first|omega|(try apply yaa);simp only [go_sem,sevalprocAttr,b0,b6]|(refine ⟨yad.fn (r:=?_) rfl ?_ ?_⟩;rotate_left;assumption)|(refine ⟨yan.fn (r:=?_) rfl ?_ ?_⟩;rotate_left;assumption)|apply yab<;>(intro h_;(try simp only [h_]);revert h_)|apply And.intro|with_reducible intro h_|trivial|simp only [go_sem,la2];omega)
 refine yat.intro (fun n fr H=> ∃k:Nat,k<=s.length/\n=s.length-k/\fr=[(7,I k),(6,if k=0 then .nils else .sl 1 2 0 k),(5,I s.length),(2, .ptr 0 0),(1, .int .u8 z)]/\
  H=if k=0 then [(0, .cells 24 (.lst [roI s,roI m,I l]))] else [(2, .cells 3 (.ints (rnO s.length z k))),(0, .cells 24 (.lst [roI s,roI m,I l]))]) ?_ ?_
 ·refine ⟨_,_,_,Wk.sub ?_ ?_,0,by omega,rfl,rfl,rfl⟩
  ·simp only [go_sem,sevalprocAttr]
  ·simp only [go_sem,sevalprocAttr]
 rintro n fr H ⟨k,hk',rfl,rfl,rfl⟩
 by_cases hkl:k<s.length
 ·have bk:decide ((k:Int)<s.length)=true:=by simp;omega
  have etk:=et k hkl
  have e0:=Int.emod_nonneg ((s.length:Int)-1-k+z) (show (s.length:Int)≠0 by omega)
  have e1:=Int.emod_lt_of_pos ((s.length:Int)-1-k+z) (show (0:Int)<s.length by omega)
  have esn:=y3i s.length z k
  have hsl:=yk4 s.length z k
  have n0:((s.length:Int)=0)=False:=eq_false (by omega)
  by_cases hk0:k=0
  ·subst hk0
   rw [if_pos rfl,if_pos rfl]
   have ez:(s.length:Int)-1-(0:Nat)+z=s.length-1+z:=by omega
   rw [ez] at etk e0 e1 esn
   repeat' (first|omega|(try apply yaa);simp only [go_sem,sevalprocAttr,bk,w1,n0,etk]|(refine ⟨yad.fn (r:=?_) rfl ?_ ?_⟩;rotate_left;assumption)|(refine ⟨yan.fn (r:=?_) rfl ?_ ?_⟩;rotate_left;assumption)|apply yab<;>(intro h_;(try simp only [h_]);revert h_)|apply And.intro|with_reducible intro h_|trivial|simp only [go_sem,la2];omega)
   refine ⟨_,_,_,?_,Wk.sub (fr':=[(7,I ((0+1:Nat):Int)),(6, .sl 1 2 0 (0+1)),(5,I s.length),(2, .ptr 0 0),(1, .int .u8 z)]) (H':=[(2, .cells 3 (.ints (rnO s.length z (0+1)))),(0, .cells 24 (.lst [roI s,roI m,I l]))]) ?_ ?_,0+1,by omega,rfl,rfl,rfl⟩
   ·omega
   ·simp only [go_sem,sevalprocAttr]
   ·rw [esn]
    simp only [go_sem,sevalprocAttr]
    all_goals rfl
  ·rw [if_neg hk0,if_neg hk0]
   repeat' (first|omega|(try apply yaa);simp only [go_sem,sevalprocAttr,bk,w1,n0,etk,hsl]|(refine ⟨yad.fn (r:=?_) rfl ?_ ?_⟩;rotate_left;assumption)|(refine ⟨yan.fn (r:=?_) rfl ?_ ?_⟩;rotate_left;assumption)|apply yab<;>(intro h_;(try simp only [h_]);revert h_)|apply And.intro|with_reducible intro h_|trivial|simp only [go_sem,la2];omega)
   refine ⟨_,_,_,?_,Wk.sub (fr':=[(7,I ((k+1:Nat):Int)),(6, .sl 1 2 0 (k+1)),(5,I s.length),(2, .ptr 0 0),(1, .int .u8 z)]) (H':=[(2, .cells 3 (.ints (rnO s.length z (k+1)))),(0, .cells 24 (.lst [roI s,roI m,I l]))]) ?_ ?_,k+1,by omega,rfl,rfl,rfl⟩
   ·omega
   ·simp only [go_sem,sevalprocAttr]
   ·rw [esn]
    simp only [go_sem,sevalprocAttr]
 ·obtain rfl:k=s.length:=by omega
  have bk:decide ((s.length:Int)<s.length)=false:=by simp
  rw [if_neg (by omega),if_neg (by omega)]
  have hsl:=yk4 s.length z s.length
  repeat' (first|omega|(try apply yaa);simp only [go_sem,sevalprocAttr,bk]|(refine ⟨yad.fn (r:=?_) rfl ?_ ?_⟩;rotate_left;assumption)|(refine ⟨yan.fn (r:=?_) rfl ?_ ?_⟩;rotate_left;assumption)|apply yab<;>(intro h_;(try simp only [h_]);revert h_)|apply And.intro|with_reducible intro h_|trivial|simp only [go_sem,la2];omega)
  have htk:(rnO s.length z s.length).take s.length=rnO s.length z s.length:=List.take_of_length_le (by omega)
  refine ⟨yad.frz [2] rfl (by simp only [go_sem,sevalprocAttr,hsl,htk,Nat.le_refl]) (by simp only [go_sem,sevalprocAttr,hsl,htk,Nat.le_refl]) (by simp only [go_sem,sevalprocAttr,hsl,htk,Nat.le_refl]) (by simp only [go_sem,sevalprocAttr,hsl,htk,Nat.le_refl]) rfl rfl rfl (yad.fn rfl hR' ?_)⟩
  repeat' (first|omega|(try apply yaa);simp only [go_sem,sevalprocAttr,yap]|(refine ⟨yad.fn (r:=?_) rfl ?_ ?_⟩;rotate_left;assumption)|(refine ⟨yan.fn (r:=?_) rfl ?_ ?_⟩;rotate_left;assumption)|apply yab<;>(intro h_;(try simp only [h_]);revert h_)|apply And.intro|with_reducible intro h_|trivial|simp only [go_sem,la2];omega)
  all_goals exact LeA.refl _
end Go.Proofs.YtjpbeacamoijhaaDoor
