/- Layer 20: the polynomial of some circles. -/
import Derived.Test.YtfgbnalnbdhimaaGreatDoorZh
import Derived.Test.YtfgbnalnbdhimaaGreatDoorZc
import Derived.Test.YtfgbnalnbdhimaaGreatDoorZa
namespace Go.Proofs.YtfgbnalnbdhimaaGreatDoor
open Go Go.RowKit
set_option maxRecDepth 100000
set_option maxHeartbeats 8000000
set_option linter.unusedVariables false
set_option linter.unusedSimpArgs false
theorem yyj {e c:Int} (hc:c≠0):yag [(e,c)] (cfL [(e,c)]):=⟨⟨by simp,fun t ht=>by simp only [List.mem_singleton] at ht;subst ht;exact hc⟩,fun _=>rfl⟩
def facU:Int:=bvE (-1) (-1)
def facV:Int:=bvE 1 (-1)
abbrev facL:List (Int×Int):=[(facU,1),(facV,-1)]
theorem ytq:yag facL (cfL facL):=⟨⟨by decide,by decide⟩,fun _=>rfl⟩
theorem yqw {e c:Int}: ∀x,cfL [(e,c)] x≠0->x=e:=fun x h=>by
 simp only [cfL,Int.add_zero] at h
 by_cases he:e=x
 ·exact he.symm
 ·rw [if_neg he] at h;exact absurd rfl h
theorem y1h:SupB (cfL facL) 1:=fun e he=>by
 simp only [cfL,Int.add_zero] at he
 by_cases h1:facU=e
 ·subst h1;decide
 ·rw [if_neg h1] at he
  by_cases h2:facV=e
  ·subst h2;decide
  ·rw [if_neg h2] at he;exact absurd rfl he
theorem y1i (e:Int): -1<=cfL facL e/\cfL facL e<=1:=by
 simp only [cfL,Int.add_zero]
 by_cases h1:facU=e
 ·rw [if_pos h1,if_neg (by rw [←h1];decide)];omega
 ·rw [if_neg h1];split<;>omega
theorem yyk:Fn Tryz.prog 33 [bvP false [(facU,1)],bvP false [(facV,1)]] (bvP false facL):=by
 refine ytl (N:=1) (yyj (by decide)) (yyj (by decide)) (fun e he=>?_) (fun e he=>?_) (by decide) (fun e=>?_) (fun e=>?_) ⟨ytq.asc,fun e=>?_⟩ (fun e=>?_)
 ·rw [yqw e he];decide
 ·rw [yqw e he];decide
 ·simp only [cfL];split<;>omega
 ·simp only [cfL];split<;>omega
 ·simp only [cfL];split<;>split<;>omega
 ·simp only [cfL];split<;>split<;>omega
theorem y4u {p:List (Int×Int)} {f:Int->Int} (hp:yag p f) (e:Int):cvL p (cfL facL) e=f (e-facU)-f (e-facV):=by
 rw [yso,hp.cf,hp.cf];omega
theorem yqx {k:Nat} (hk:k<=45) (e:Int): -35184372088832<=Hs.XE k e/\Hs.XE k e<=35184372088832:=by
 have h1:=Hs.XE_bnd k e
 have h2:((2^k:Nat):Int)<=((2^45:Nat):Int):=Int.ofNat_le.2 (Nat.pow_le_pow_right (by decide) hk)
 rw [Int.natCast_pow,Int.natCast_pow] at h2
 have h3:((2:Nat):Int)^45=35184372088832:=by decide
 rw [h3] at h2
 have h4:((2:Nat):Int)^k=2^k:=rfl
 rw [h4] at h2
 generalize (2:Int)^k=y at*
 omega
theorem yyl: ∀n:Nat,Hs.dN n (-(n:Int))=1
 |0=>rfl
 |n+1=>by
  unfold Hs.dN
  have h1:=yyl n
  have h2:Hs.dN n (-((n+1:Nat):Int)-1)=0:=Classical.byContradiction fun h=>by
   have:=Hs.dN_sup n _ h
   omega
  rw [h2,show-((n+1:Nat):Int)+1= -(n:Int) by omega,h1];rfl
theorem y7z {n:Nat} (hn:n<=900) {q:List (Int×Int)} (hq:yag q (Hs.XE (n+1))):q≠[]:=fun h=>by
 have h1:=hq.cf (bvE (-(n:Int)) (-(n:Int)))
 rw [h] at h1
 unfold Hs.XE Hs.Xh at h1
 rw [yet (by omega),yc2 (by omega),if_pos (by omega),Nat.add_sub_cancel,Int.sub_zero,yyl] at h1
 simp [cfL] at h1
theorem yu9 (k:Nat) (hk:1<=k/\k<=45) {p:List (Int×Int)} (hp:yag p (Hs.XE k)):Fn Tryz.prog 36 [I k] (bvP false p):=by
 have t1:=yhx 1 (-1) (-1) (by decide) (by decide) (by decide) (by decide)
 have t2:=yhx 1 1 (-1) (by decide) (by decide) (by decide) (by decide)
 have t3:=yhx 1 0 0 (by decide) (by decide) (by decide) (by decide)
 have hF:=yyk
 rw [show bvE (-1) (-1)=facU from rfl] at t1
 rw [show bvE 1 (-1)=facV from rfl] at t2
 rw [show bvE 0 0=0 from rfl] at t3
 refine Fn.introL [.cell 2 26] Tryz.func36 rfl rfl (by decide) (by simp [Tryz.ntmps36]) ?_;rw [Tryz.ntmps36]
 repeat' (first|omega|(try apply yaa);simp only [go_sem,yad]|refine cgL ?_|refine cgD ?_|apply yab<;>(intro h_;(try simp only [h_]);revert h_)|apply And.intro|with_reducible intro h_|trivial)
 refine yai.intro (fun n fr H=> ∃(i:Nat) (q:List (Int×Int)),i+1<=k/\n=k-i/\yag q (Hs.XE (i+1))/\fr=[(11,I i),(10,I ((k:Int)-1)),(4, .ptr 2 0),(3, .ptr 1 0),(2, .ptr 0 0)]/\H=[(2, .cells 26 (.lst [.bool false,bvT q])),(1, .cells 26 (.lst [.bool false,bvT facL])),(0,gaB)]) ?_ ?_
 ·refine ⟨_,_,_,Wk.sub ?_ ?_,0,[(0,1)],by omega,rfl,Hs.XE_1,rfl,rfl⟩
  ·simp only [go_sem,yad]
  ·simp only [go_sem,yad]
 rintro n fr H ⟨i,q,hi,rfl,hq,rfl,rfl⟩
 by_cases hil:i+1<k
 ·have bi:decide ((i:Int)<(k:Int)-1)=true:=by simp;omega
  have e2: ∀e,cvL q (cfL facL) e=Hs.XE (i+1+1) e:=fun e=>by rw [y4u hq,Hs.XE_S i (by omega)];rfl
  obtain ⟨q',hq'⟩:=ygv (Hs.XE_sup (i+1+1)) (by omega)
  have hM:=y4t (p:=q) (q:=facL) (r:=q') (N:=50) (A:=35184372088832) (B:=1) hq ytq (y7z (by omega) hq) (by decide) ((Hs.XE_sup (i+1)).mono (by omega)) (y1h.mono (by decide)) (by decide) (yqx (by omega)) y1i (by decide) (by decide) (by decide) (hq'.congr fun e=>(e2 e).symm) (fun e=>by dsimp only;rw [e2];have:=yqx (k:=i+1+1) (by omega) e;omega) (fun e he=>by dsimp only at he;rw [e2] at he;have:=Hs.XE_sup (i+1+1) e he;omega)
  repeat' (first|omega|(try apply yaa);simp only [go_sem,bi,yad]|refine cgL ?_|refine cgD ?_|apply yab<;>(intro h_;(try simp only [h_]);revert h_)|apply And.intro|with_reducible intro h_|trivial)
  refine ⟨_,_,_,?_,Wk.sub ?_ ?_,i+1,q',by omega,rfl,hq',rfl,rfl⟩
  ·omega
  ·simp only [go_sem,yad]
  ·simp only [go_sem,yad]
 ·obtain rfl:k=i+1:=by omega
  have bi:decide ((i:Int)<((i+1:Nat):Int)-1)=false:=by simp
  obtain rfl:q=p:=hq.uniq hp
  repeat' (first|omega|(try apply yaa);simp only [go_sem,bi,yad]|apply yab<;>(intro h_;(try simp only [h_]);revert h_)|apply And.intro|with_reducible intro h_|trivial)
  all_goals exact LeA.refl _
end Go.Proofs.YtfgbnalnbdhimaaGreatDoor
set_option linter.unusedSimpArgs false
set_option linter.unusedVariables false
namespace Go.Proofs.YtfgbnalnbdhimaaGreatDoor
open Go Go.RowKit
set_option maxRecDepth 100000
theorem ynh (h b:Int) (h0:0<=h) (h1:h<=100000):Fn Tryz.prog 90 [I h,I b] (I (ya7 h b)):=y3y h b h0 h1
theorem yqy (s m:List Int) (L:Int) (hs:s.length<=1000) (hm:ycl m s.length):Fn Tryz.prog 65 [dgA s m L] (.bool (sphM m s.length)):=by
 obtain ⟨p1,p2,p3,p4⟩:=yij hm
 have hml:=hm.1
 refine Fn.intro [.tmp 2] Tryz.func65 rfl rfl (by decide) (by simp [Tryz.ntmps65]) ?_;rw [Tryz.ntmps65]
 repeat' (first|omega|(try apply yaa);simp only [go_sem]|apply yab<;>(intro h_;(try simp only [h_]);revert h_)|apply And.intro|with_reducible intro h_|trivial)
 refine ⟨yae.fn rfl (y0t s m L hs hm) ?_⟩
 repeat' (first|omega|(try apply yaa);simp only [go_sem]|apply yab<;>(intro h_;(try simp only [h_]);revert h_)|apply And.intro|with_reducible intro h_|trivial)
 generalize hpt:(yat m s.length).1=part at*
 generalize hnp:(yat m s.length).2=np at*
 refine yai.intro (fun n fr H=> ∃k:Nat,k<=part.length/\n=part.length-k/\fr=[(22,I k),(21,I part.length),(20,roI part),(5, .sl 1 1 0 np.toNat),(3,roI part),(1, .ptr 0 0)]/\H=[(1, .cells 3 (.ints (decs part np.toNat k))),(0, .cells 45 (.lst [roI s,roI m,I L]))]) ?_ ?_
 ·refine ⟨_,_,_,?_,0,by omega,rfl,rfl,rfl⟩
  refine Wk.sub ?_ ?_<;>simp only [go_sem]
  simp [decs]
 rintro n fr H ⟨k,hk,rfl,rfl,rfl⟩
 obtain ⟨d1,d2⟩:=yja part np.toNat k
 by_cases hkl:k<part.length
 ·have q4:=p4 k (by omega)
  have d3:=d2 (part.getD k 0).toNat
  repeat' (first|omega|(try apply yaa);simp only [go_sem]|apply yab<;>(intro h_;(try simp only [h_]);revert h_)|apply And.intro|with_reducible intro h_|trivial)
  refine ⟨_,_,_,?_,?_,⟨k+1,by omega,rfl,rfl,rfl⟩⟩
  ·omega
  ·refine Wk.sub ?_ ?_<;>simp only [go_sem]
   rfl
 obtain rfl:k=part.length:=by omega
 repeat' (first|omega|(try apply yaa);simp only [go_sem]|apply yab<;>(intro h_;(try simp only [h_]);revert h_)|apply And.intro|with_reducible intro h_|trivial)
 refine yai.intro (fun n fr H=> ∃h:Nat,h<=m.length/\n=m.length-h/\fr=[(40,I h),(39,I m.length),(8, .sl 1 2 0 m.length),(5, .sl 1 1 0 np.toNat),(3,roI part),(1, .ptr 0 0)]/\H=[(2, .cells 4 (.bools (sphN m part np.toNat h).2)),(1, .cells 3 (.ints (sphN m part np.toNat h).1)),(0, .cells 45 (.lst [roI s,roI m,I L]))]) ?_ ?_
 ·refine ⟨_,_,_,?_,0,by omega,rfl,rfl,rfl⟩
  refine Wk.sub ?_ ?_<;>simp only [go_sem]
  all_goals simp [sphN]
 rintro n fr H ⟨h,hh,rfl,rfl,rfl⟩
 obtain ⟨e1,e2,e3⟩:=yfg m part np.toNat h
 by_cases hhl:h<m.length
 ·have q4:=p4 (h/4) (by omega)
  have e4:=e3 (part.getD (h/4) 0).toNat
  have e5:(h:Int).tdiv 4=(h/4:Nat):=by rw [yc1 (by omega)];omega
  have e6:((h:Int).toNat)=h:=by omega
  repeat' (first|omega|(try apply yaa);simp only [go_sem,e5]|apply yab<;>(intro h_;(try simp only [h_]);revert h_)|apply And.intro|with_reducible intro h_|trivial)
  ·have eS:sphN m part np.toNat (h+1)=sphN m part np.toNat h:=by
    simp only [sphN,sph1];rw [if_pos (by assumption)]
   refine ⟨_,_,_,?_,?_,⟨h+1,by omega,rfl,rfl,rfl⟩⟩
   ·omega
   ·refine Wk.sub ?_ ?_<;>(rw [eS];simp only [go_sem])
  ·have hf:(sphN m part np.toNat h).2.getD h false=false:=by assumption
   have eS:sphN m part np.toNat (h+1)=((sphN m part np.toNat h).1.set (part.getD (h/4) 0).toNat ((sphN m part np.toNat h).1.getD (part.getD (h/4) 0).toNat 0+1),mark m (m.length+1) (sphN m part np.toNat h).2 h):=by
    simp only [sphN,sph1];rw [if_neg (nbt hf)]
   have hu:=y5n (sphN m part np.toNat h).2
   generalize (sphN m part np.toNat h).2=seen0 at*
   generalize (sphN m part np.toNat h).1.set (part.getD (h/4) 0).toNat ((sphN m part np.toNat h).1.getD (part.getD (h/4) 0).toNat 0+1)=exc at*
   refine yai.intro (fun f fr H=> ∃(seen:List Bool) (g:Int),unm seen<f/\seen.length=m.length/\0<=g/\g<4*s.length/\mark m f seen g=mark m (m.length+1) seen0 h/\
    fr=[(10,I g),(40,I h),(39,I m.length),(8, .sl 1 2 0 m.length),(5, .sl 1 1 0 np.toNat),(3,roI part),(1, .ptr 0 0)]/\H=[(2, .cells 4 (.bools seen)),(1, .cells 3 (.ints exc)),(0, .cells 45 (.lst [roI s,roI m,I L]))]) ?_ ?_
   ·refine ⟨m.length+1,_,_,?_,seen0,h,by omega,e2,by omega,by omega,rfl,rfl,rfl⟩
    refine Wk.sub ?_ ?_<;>simp only [go_sem]
   rintro f fr H ⟨seen,g,hf1,hf2,hg0,hg1,hmk,rfl,rfl⟩
   obtain ⟨f',rfl⟩: ∃f',f=f'+1:=⟨f-1,by omega⟩
   have hmr:=hm.2 g.toNat (by omega)
   repeat' (first|omega|(try apply yaa);simp only [go_sem]|apply yab<;>(intro h_;(try simp only [h_]);revert h_)|apply And.intro|with_reducible intro h_|trivial)
   ·refine ⟨yae.fn rfl (ynh _ _ hmr.1 (by omega)) ?_⟩
    repeat' (first|omega|(try apply yaa);simp only [go_sem]|apply yab<;>(intro h_;(try simp only [h_]);revert h_)|apply And.intro|with_reducible intro h_|trivial)
    have hsg:seen.getD g.toNat false=false:=by assumption
    have hus:=yr9 (l:=seen) (i:=g.toNat) (by omega) hsg
    have htr:=ygu (b:= -1) hmr.1 hmr.2
    refine ⟨f',_,_,?_,?_,⟨seen.set g.toNat true,ya7 (m.getD g.toNat 0) (-1),by omega,by simp [hf2],htr.1,htr.2,?_,rfl,rfl⟩⟩
    ·omega
    ·refine Wk.sub ?_ ?_<;>simp only [go_sem]
    ·rw [←hmk];simp only [mark];rw [if_neg (nbt hsg)]
   ·have hsg:seen.getD g.toNat false=true:=by assumption
    have hmk2:seen=mark m (m.length+1) seen0 h:=by rw [←hmk];simp only [mark];rw [if_pos hsg]
    refine ⟨_,_,_,?_,?_,⟨h+1,by omega,rfl,rfl,rfl⟩⟩
    ·omega
    ·refine Wk.sub ?_ ?_<;>(rw [eS];simp only [go_sem])
     exact hmk2
 obtain rfl:h=m.length:=by omega
 repeat' (first|omega|(try apply yaa);simp only [go_sem]|apply yab<;>(intro h_;(try simp only [h_]);revert h_)|apply And.intro|with_reducible intro h_|trivial)
 refine yai.intro (fun n fr H=> ∃k:Nat,k<=np.toNat/\n=np.toNat-k/\(∀i,i<k->(sphN m part np.toNat m.length).1.getD i 0=2)/\fr=[(75,I k),(74,I np.toNat),(73, .sl 1 1 0 np.toNat)]/\H=[(1, .cells 3 (.ints (sphN m part np.toNat m.length).1))]) ?_ ?_
 ·refine ⟨_,_,_,?_,0,by omega,rfl,by omega,rfl,rfl⟩
  refine Wk.sub ?_ ?_<;>simp only [go_sem]
 rintro n fr H ⟨k,hk,rfl,hall,rfl,rfl⟩
 repeat' (first|omega|(try apply yaa);simp only [go_sem]|apply yab<;>(intro h_;(try simp only [h_]);revert h_)|apply And.intro|with_reducible intro h_|trivial)
 ·unfold sphM
  rw [hpt,hnp]
  exact (yun (k:=k) (by rw [(yfg m part np.toNat m.length).1];omega) (by assumption)).symm
 ·refine ⟨_,_,_,?_,?_,⟨k+1,by omega,rfl,fun i hi=>?_,rfl,rfl⟩⟩
  ·omega
  ·refine Wk.sub ?_ ?_<;>simp only [go_sem]
  ·rcases Nat.lt_or_ge i k with g|g
   ·exact hall i g
   ·rw [show i=k by omega];assumption
 ·unfold sphM
  rw [hpt,hnp]
  exact (ywo (fun i hi=>hall i (by rw [(yfg m part np.toNat m.length).1] at hi;omega))).symm
end Go.Proofs.YtfgbnalnbdhimaaGreatDoor
set_option linter.unusedSimpArgs false
set_option linter.unusedVariables false
namespace Go.Proofs.YtfgbnalnbdhimaaGreatDoor
open Go Go.RowKit
set_option maxRecDepth 100000
set_option maxHeartbeats 4000000
def y6p:TbA:=[(15,[[76,78,79],[75,78,79],[78,79],[75,76,77,79],[75,76,77,78],[],[]],[[],[0],[],[0,1,2],[0,1,2,3],[],[]])]
def y6q:TbT:=[(15, .node [(0, .node [(1, .node [(2, .node [(3,trD [4,5,6]),(4,trD [3,5,6])]),(3, .node [(2,trD [4,5,6]),(4,trD [2,5,6])]),(4, .node [(2,trD [3,5,6]),(3,trD [2,5,6])])]),(3, .node [(1, .node [(2,trD [4,5,6]),(4,trD [2,5,6])]),(4,trD [1,2,5,6])]),(4, .node [(1, .node [(2,trD [3,5,6]),(3,trD [2,5,6])]),(3,trD [1,2,5,6])])]),(1, .node [(0, .node [(2, .node [(3,trD [4,5,6]),(4,trD [3,5,6])]),(3, .node [(2,trD [4,5,6]),(4,trD [2,5,6])]),(4, .node [(2,trD [3,5,6]),(3,trD [2,5,6])])]),(3, .node [(0, .node [(2,trD [4,5,6]),(4,trD [2,5,6])]),(4,trD [0,2,5,6])]),(4, .node [(0, .node [(2,trD [3,5,6]),(3,trD [2,5,6])]),(3,trD [0,2,5,6])])]),(3, .node [(0, .node [(1, .node [(2,trD [4,5,6]),(4,trD [2,5,6])]),(4,trD [1,2,5,6])]),(1, .node [(0, .node [(2,trD [4,5,6]),(4,trD [2,5,6])]),(4,trD [0,2,5,6])]),(4, .node [(0,trD [1,2,5,6]),(1,trD [0,2,5,6])])]),(4, .node [(0, .node [(1, .node [(2,trD [3,5,6]),(3,trD [2,5,6])]),(3,trD [1,2,5,6])]),(1, .node [(0, .node [(2,trD [3,5,6]),(3,trD [2,5,6])]),(3,trD [0,2,5,6])]),(3, .node [(0,trD [1,2,5,6]),(1,trD [0,2,5,6])])])])]
theorem yen (s m:List Int) (L:Int):Fn Tryz.prog 29 [dgA s m L] (.bool (ya4 s m L)):=by
 refine Fn.intro [.tmp 2] Tryz.func29 rfl rfl (by decide) (by simp [Tryz.ntmps29]) ?_;rw [Tryz.ntmps29]
 repeat' (first|omega|(try apply yaa);simp only [go_sem]|apply yab<;>(intro h_;(try simp only [h_]);revert h_)|apply And.intro|with_reducible intro h_|trivial)
 ·exact vbF (by omega)
 rotate_left
 ·exact vbF (by omega)
 ·exact vbF (by omega)
 ·exact vbF (by omega)
 refine yai.intro (fun n fr H=> ∃k:Nat,k<=s.length/\n=s.length-k/\ycy s k/\fr=[(34,I k),(33,I s.length),(32,roI s),(3,I s.length),(1, .ptr 0 0)]/\H=[(0, .cells 45 (.lst [roI s,roI m,I L]))]) ?_ ?_
 ·refine ⟨_,_,_,?_,0,by omega,rfl,(fun i hi=>by omega),rfl,rfl⟩
  refine Wk.sub ?_ ?_<;>simp only [go_sem]
 rintro n fr H ⟨k,hk,rfl,hso,rfl,rfl⟩
 repeat' (first|omega|(try apply yaa);simp only [go_sem]|apply yab<;>(intro h_;(try simp only [h_]);revert h_)|apply And.intro|with_reducible intro h_|trivial)
 ·exact vbF fun hv=>by have:=hv.2.2.2.2.1 k (by omega);omega
 ·refine ⟨_,_,_,?_,?_,⟨k+1,by omega,rfl,yik hso (by omega),rfl,rfl⟩⟩
  ·omega
  ·refine Wk.sub ?_ ?_<;>simp only [go_sem]
 ·refine ⟨_,_,_,?_,?_,⟨k+1,by omega,rfl,yik hso (by omega),rfl,rfl⟩⟩
  ·omega
  ·refine Wk.sub ?_ ?_<;>simp only [go_sem]
 obtain rfl:k=s.length:=by omega
 refine yai.intro (fun n fr H=> ∃k:Nat,k<=m.length/\n=m.length-k/\ydf s m k/\fr=[(48,I k),(47,I m.length),(46,roI m),(3,I s.length),(1, .ptr 0 0)]/\H=[(0, .cells 45 (.lst [roI s,roI m,I L]))]) ?_ ?_
 ·refine ⟨_,_,_,?_,0,by omega,rfl,(fun i hi=>by omega),rfl,rfl⟩
  refine Wk.sub ?_ ?_<;>simp only [go_sem]
 rintro n fr H ⟨h,hh,rfl,hmo,rfl,rfl⟩
 repeat' (first|omega|(first|apply yaa|refine tbN y6p ?_|refine tbT y6q ?_|skip);simp only [go_sem]|apply yab<;>(intro h_;(try simp only [h_]);revert h_)|apply And.intro|with_reducible intro h_|trivial)
 ·exact vbF fun hv=>by have:=hv.2.2.2.2.2 h (by omega);omega
 ·have h4:m.getD h 0<4*s.length:=by assumption
  refine ⟨ybd.fn rfl (ygw s m L h (by omega) (by omega) (by omega)) ?_⟩
  repeat' (first|omega|(try apply yaa);simp only [go_sem]|apply yab<;>(intro h_;(try simp only [h_]);revert h_)|apply And.intro|with_reducible intro h_|trivial)
  refine ⟨ybd.fn rfl (ygw s m L (m.getD h 0) (by assumption) h4 (by omega)) ?_⟩
  repeat' (first|omega|(try apply yaa);simp only [go_sem]|apply yab<;>(intro h_;(try simp only [h_]);revert h_)|apply And.intro|with_reducible intro h_|trivial)
  ·exact vbF fun hv=>by have:=hv.2.2.2.2.2 h (by omega);simp_all
  ·refine ⟨_,_,_,?_,?_,⟨h+1,by omega,rfl,ypc hmo ⟨by assumption,h4,by assumption,by assumption,by assumption⟩,rfl,rfl⟩⟩
   ·omega
   ·refine Wk.sub ?_ ?_<;>simp only [go_sem]
 ·exact vbF fun hv=>by have:=hv.2.2.2.2.2 h (by omega);omega
 ·exact vbF fun hv=>by have:=hv.2.2.2.2.2 h (by omega);omega
 ·exact vbF fun hv=>by have:=hv.2.2.2.2.2 h (by omega);omega
 ·have hm:m.length=4*s.length:=by omega
  obtain rfl:h=4*s.length:=by omega
  refine ⟨yae.fn rfl (yqy s m L (by omega) ⟨hm,fun i hi=>⟨(hmo i hi).1,(hmo i hi).2.1⟩⟩) ?_⟩
  repeat' (first|omega|(try apply yaa);simp only [go_sem]|apply yab<;>(intro h_;(try simp only [h_]);revert h_)|apply And.intro|with_reducible intro h_|trivial)
  exact vbT ⟨by omega,hm,by assumption,by assumption,hso,hmo⟩
abbrev dgC (s m:List Int) (L:Int):Cs:= .lst [roI s,roI m,I L]
attribute [go_sem] dgC
end Go.Proofs.YtfgbnalnbdhimaaGreatDoor
set_option linter.unusedSimpArgs false
set_option linter.unusedVariables false
namespace Go.Proofs.YtfgbnalnbdhimaaGreatDoor
open Go Go.RowKit
set_option maxRecDepth 100000
set_option maxHeartbeats 4000000
def yiz:TbA:=[(2,[[18,19,20,21,22,23,8],[18,19,20,21,22,23,8],[18,19,20,21,22,23,8],[18,19,20,21,22,23,8],[14,15,16,17,22,23,8],[14,15,16,17,22,23,8],[14,15,16,17,22,23,8],[14,15,16,17,22,23,8],[14,15,16,17,18,19,20,21,8],[14,15,16,17,18,19,20,21,8],[8],[14,15,16,17,18,19,20,21,22,23,24],[]],[[],[],[],[],[0,1,2,3],[0,1,2,3],[0,1,2,3],[0,1,2,3],[0,1,2,3,4,5,6,7],[0,1,2,3,4,5,6,7],[],[0,1,2,3,4,5,6,7,8,9,10],[]]),(6,[[35,36,37,38,39,40],[35,36,37,38,39,40],[33,34,36,37,38,39,40],[33,34,35,37,38,39],[33,34,35,36,38],[33,34,35,36,37],[33,34,35,36],[33,34,35],[],[]],[[],[],[0,1],[0,1,2],[0,1,2,3],[0,1,2,3,4],[0,1,2,3],[0,1,2],[],[]]),(11,[[53,54,55,56,57,58],[53,54,55,56,57,58],[51,52,54,56,57],[51,52,53,56,57],[51,52,56,57],[51,52,53,54,55,57],[51,52,53,54,55,56],[51,52],[],[]],[[],[],[0,1],[0,1,2],[0,1],[0,1,2,3,4],[0,1,2,3,4,5],[0,1],[],[]])]
theorem yym (g:Nat) (cap:List AV) (by':Int->Int->Int) (h:Int) (h0:0<=h) (h1:h<=10000) (hp1:(cap.all p1)=true) (hf:Fn Tryz.prog g ([I (h/4),I (h % 4)]++cap) (I (by' (h/4) (h % 4)))):
  Fn Tryz.prog 130 [I h, .rp (.lst [.fn g cap]) 0] (I (ya7 h (by' (h/4) (h % 4)))):=by
 have e1:h.tmod 4=h % 4:=ysw h0
 have e2:h.tdiv 4=h/4:=yc1 h0
 refine Fn.intro [.tmp 3] Tryz.func130 rfl rfl (by decide) (by simp [Tryz.ntmps130]) ?_;rw [Tryz.ntmps130]
 repeat' (first|omega|(try apply yaa);simp only [go_sem,e1,e2]|apply yab<;>(intro h_;(try simp only [h_]);revert h_)|apply And.intro|with_reducible intro h_|trivial)
 refine ⟨yae.fn ?_ hf ?_⟩
 ·simp only [List.all_cons,ybj hp1];rfl
 repeat' (first|omega|(try apply yaa);simp only [go_sem]|apply yab<;>(intro h_;(try simp only [h_]);revert h_)|apply And.intro|with_reducible intro h_|trivial)
 refine ⟨yae.fn rfl (ynh h _ h0 (by omega)) ?_⟩
 repeat' (first|omega|(try apply yaa);simp only [go_sem]|apply yab<;>(intro h_;(try simp only [h_]);revert h_)|apply And.intro|with_reducible intro h_|trivial)
theorem y4v (s m:List Int) (L:Int) (g1 g2:Nat) (c1 c2:List AV) (by':Int->Int->Int) (sg:Int->Int) (hs:s.length<=1000) (hm:ycl m s.length) (hp1:(c1.all p1)=true) (hp2:(c2.all p1)=true)
  (hb: ∀c x:Int,0<=c->c<s.length->0<=x->x<4->Fn Tryz.prog g1 ([I c,I x]++c1) (I (by' c x))) (hg: ∀c:Nat,c<s.length->Fn Tryz.prog g2 ([I c]++c2) (I (sg c))/\InI (s.getD c 0*sg c)):
  Fn Tryz.prog 111 [dgA s m L, .fn g1 c1, .fn g2 c2] (dgA (sgM s sg s.length) (mvM m (fun h=>ya7 h (by' (h/4) (h % 4))) m.length) L):=by
 have hml:=hm.1
 have hto: ∀h:Int,0<=h->h<4*s.length->Fn Tryz.prog 130 [I h, .rp (.lst [.fn g1 c1]) 0] (I (ya7 h (by' (h/4) (h % 4)))):=fun h h0 h1=>
  yym g1 c1 by' h h0 (by omega) hp1 (hb _ _ (by omega) (by omega) (by omega) (by omega))
 refine Fn.intro [.cell 6 45] Tryz.func111 rfl rfl (by decide) (by simp [Tryz.ntmps111]) ?_;rw [Tryz.ntmps111]
 repeat' (first|omega|(first|apply yaa|refine tbN yiz ?_|skip);simp only [go_sem,ybu hp1,ybj hp1,ybv hp1,ybe hp1,ybw hp1,yay hp1,yas hp1,ya5 hp1,yaz hp1,ybu hp2,ybj hp2,ybv hp2,ybe hp2,ybw hp2,yay hp2,yas hp2,ya5 hp2,yaz hp2]|apply yab<;>(intro h_;(try simp only [h_]);revert h_)|apply And.intro|with_reducible intro h_|trivial)
 refine yai.intro (fun n fr H=> ∃k:Nat,k<=s.length/\n=s.length-k/\fr=[(28,I k),(27,I s.length),(26,roI s),(8, .ptr 14 0),(7, .fn 130 [.ptr 1 0]),(6, .ptr 2 0),(3, .ptr 0 0),(2, .fn g2 c2)]/\
  H=[(14, .cells 45 (.lst [.sl 1 6 0 s.length, .sl 1 10 0 m.length,I L])),(10, .cells 3 (.ints (List.replicate m.length 0))),(6, .cells 3 (.ints (sgM s sg k++List.replicate (s.length-k) 0))),(2, .cells 45 (.lst [.nils, .nils,I 0])),(1, .cells 59 (.lst [.fn g1 c1])),(0, .cells 45 (.lst [roI s,roI m,I L]))]) ?_ ?_
 ·refine ⟨_,_,_,?_,0,by omega,rfl,rfl,rfl⟩
  refine Wk.sub ?_ ?_<;>simp only [go_sem]
  all_goals simp [sgM,ybe hp1,ybe hp2]
 rintro n fr H ⟨k,hk,rfl,rfl,rfl⟩
 have gl:=yje s sg k
 by_cases hkl:k<s.length
 ·obtain ⟨hg1,hg2⟩:=hg k hkl
  repeat' (first|omega|(first|apply yaa|refine tbN yiz ?_|skip);simp only [go_sem,ybu hp1,ybj hp1,ybv hp1,ybe hp1,ybw hp1,yay hp1,yas hp1,ya5 hp1,yaz hp1,ybu hp2,ybj hp2,ybv hp2,ybe hp2,ybw hp2,yay hp2,yas hp2,ya5 hp2,yaz hp2]|apply yab<;>(intro h_;(try simp only [h_]);revert h_)|apply And.intro|with_reducible intro h_|trivial)
  refine ⟨ybd.fn (by simp only [List.all_cons,ybj hp2];rfl) hg1 ?_⟩
  unfold InI at hg2
  repeat' (first|omega|(try apply yaa);simp only [go_sem,ybu hp1,ybj hp1,ybv hp1,ybe hp1,ybw hp1,yay hp1,yas hp1,ya5 hp1,yaz hp1,ybu hp2,ybj hp2,ybv hp2,ybe hp2,ybw hp2,yay hp2,yas hp2,ya5 hp2,yaz hp2]|apply yab<;>(intro h_;(try simp only [h_]);revert h_)|apply And.intro|with_reducible intro h_|trivial)
  all_goals first|omega|skip
  refine ⟨_,_,_,?_,?_,⟨k+1,by omega,rfl,rfl,rfl⟩⟩
  ·omega
  ·refine Wk.sub ?_ ?_<;>simp only [go_sem]
   all_goals simp only [ybe hp1,ybe hp2,and_self,and_true,y3o s sg s.length k hkl]
 obtain rfl:k=s.length:=by omega
 rw [Nat.sub_self,List.replicate_zero,List.append_nil] at*
 repeat' (first|omega|(first|apply yaa|refine tbN yiz ?_|skip);simp only [go_sem,ybu hp1,ybj hp1,ybv hp1,ybe hp1,ybw hp1,yay hp1,yas hp1,ya5 hp1,yaz hp1,ybu hp2,ybj hp2,ybv hp2,ybe hp2,ybw hp2,yay hp2,yas hp2,ya5 hp2,yaz hp2]|apply yab<;>(intro h_;(try simp only [h_]);revert h_)|apply And.intro|with_reducible intro h_|trivial)
 refine yai.intro (fun n fr H=> ∃k:Nat,k<=m.length/\n=m.length-k/\fr=[(46,I k),(45,I m.length),(44,roI m),(8, .ptr 14 0),(7, .fn 130 [.ptr 1 0]),(6, .ptr 2 0),(3, .ptr 0 0)]/\
  H=[(14, .cells 45 (.lst [.sl 1 6 0 s.length, .sl 1 10 0 m.length,I L])),(10, .cells 3 (.ints (mvM m (fun h=>ya7 h (by' (h/4) (h % 4))) k))),(6, .cells 3 (.ints (sgM s sg s.length))),(2, .cells 45 (.lst [.nils, .nils,I 0])),(1, .cells 59 (.lst [.fn g1 c1])),(0, .cells 45 (.lst [roI s,roI m,I L]))]) ?_ ?_
 ·refine ⟨_,_,_,?_,0,by omega,rfl,rfl,rfl⟩
  refine Wk.sub ?_ ?_<;>simp only [go_sem]
  all_goals simp [mvM,ybe hp1]
 rintro n fr H ⟨k,hk,rfl,rfl,rfl⟩
 have ml:=yjd m (fun h=>ya7 h (by' (h/4) (h % 4))) k
 by_cases hkl:k<m.length
 ·have hmr:=hm.2 k (by omega)
  have ht1:=hto k (by omega) (by omega)
  have ht2:=hto (m.getD k 0) hmr.1 hmr.2
  have hr1:=ygu (h:=k) (b:=by' (k/4) (k % 4)) (n:=s.length) (by omega) (by omega)
  repeat' (first|omega|(first|apply yaa|refine tbN yiz ?_|skip);simp only [go_sem,ybu hp1,ybj hp1,ybv hp1,ybe hp1,ybw hp1,yay hp1,yas hp1,ya5 hp1,yaz hp1,ybu hp2,ybj hp2,ybv hp2,ybe hp2,ybw hp2,yay hp2,yas hp2,ya5 hp2,yaz hp2]|apply yab<;>(intro h_;(try simp only [h_]);revert h_)|apply And.intro|with_reducible intro h_|trivial)
  refine ⟨ybd.flat rfl (by simp only [go_sem,ybu hp1,ybj hp1,ybv hp1,ybe hp1,ybw hp1,yay hp1,yas hp1,ya5 hp1,yaz hp1,ybu hp2,ybj hp2,ybv hp2,ybe hp2,ybw hp2,yay hp2,yas hp2,ya5 hp2,yaz hp2]) (by simp only [go_sem,ybu hp1,ybj hp1,ybv hp1,ybe hp1,ybw hp1,yay hp1,yas hp1,ya5 hp1,yaz hp1,ybu hp2,ybj hp2,ybv hp2,ybe hp2,ybw hp2,yay hp2,yas hp2,ya5 hp2,yaz hp2]) ht1 rfl ?_⟩
  repeat' (first|omega|(try apply yaa);simp only [go_sem,ybu hp1,ybj hp1,ybv hp1,ybe hp1,ybw hp1,yay hp1,yas hp1,ya5 hp1,yaz hp1,ybu hp2,ybj hp2,ybv hp2,ybe hp2,ybw hp2,yay hp2,yas hp2,ya5 hp2,yaz hp2]|apply yab<;>(intro h_;(try simp only [h_]);revert h_)|apply And.intro|with_reducible intro h_|trivial)
  refine ⟨ybd.flat rfl (by simp only [go_sem,ybu hp1,ybj hp1,ybv hp1,ybe hp1,ybw hp1,yay hp1,yas hp1,ya5 hp1,yaz hp1,ybu hp2,ybj hp2,ybv hp2,ybe hp2,ybw hp2,yay hp2,yas hp2,ya5 hp2,yaz hp2]) (by simp only [go_sem,ybu hp1,ybj hp1,ybv hp1,ybe hp1,ybw hp1,yay hp1,yas hp1,ya5 hp1,yaz hp1,ybu hp2,ybj hp2,ybv hp2,ybe hp2,ybw hp2,yay hp2,yas hp2,ya5 hp2,yaz hp2]) ht2 rfl ?_⟩
  repeat' (first|omega|(try apply yaa);simp only [go_sem,ybu hp1,ybj hp1,ybv hp1,ybe hp1,ybw hp1,yay hp1,yas hp1,ya5 hp1,yaz hp1,ybu hp2,ybj hp2,ybv hp2,ybe hp2,ybw hp2,yay hp2,yas hp2,ya5 hp2,yaz hp2]|apply yab<;>(intro h_;(try simp only [h_]);revert h_)|apply And.intro|with_reducible intro h_|trivial)
  refine ⟨_,_,_,?_,?_,⟨k+1,by omega,rfl,rfl,rfl⟩⟩
  ·omega
  ·refine Wk.sub ?_ ?_<;>simp only [go_sem]
   all_goals simp only [ybe hp1,mvM,and_self,and_true]
 ·obtain rfl:k=m.length:=by omega
  repeat' (first|omega|(first|apply yaa|refine tbN yiz ?_|skip);simp only [go_sem,ybu hp1,ybj hp1,ybv hp1,ybe hp1,ybw hp1,yay hp1,yas hp1,ya5 hp1,yaz hp1,ybu hp2,ybj hp2,ybv hp2,ybe hp2,ybw hp2,yay hp2,yas hp2,ya5 hp2,yaz hp2]|apply yab<;>(intro h_;(try simp only [h_]);revert h_)|apply And.intro|with_reducible intro h_|trivial)
  ·exact List.take_of_length_le (by omega)
  ·exact List.take_of_length_le (by omega)
end Go.Proofs.YtfgbnalnbdhimaaGreatDoor
set_option linter.unusedSimpArgs false
set_option linter.unusedVariables false
namespace Go.Proofs.YtfgbnalnbdhimaaGreatDoor
open Go Go.RowKit
set_option maxRecDepth 100000
set_option maxHeartbeats 4000000
theorem y6r (s m:List Int) (L:Int) (g:Nat) (cc:List AV) (ch:Int->Bool) (c x:Int) (h0:0<=c) (h1:c<s.length) (hp1:cc.all p1=true) (hf:Fn Tryz.prog g (I c::cc) (.bool (ch c))):
  Fn Tryz.prog 110 [I c,I x, .rp (.lst [.fn g cc]) 0, .rp (dgC s m L) 0] (I (exBy s ch c)):=by
 unfold exBy
 refine Fn.intro [.tmp 6] Tryz.func110 rfl rfl (by decide) (by simp [Tryz.ntmps110]) ?_;rw [Tryz.ntmps110]
 repeat' (first|omega|(try apply yaa);simp only [go_sem]|apply yab<;>(intro h_;(try simp only [h_]);revert h_)|apply And.intro|with_reducible intro h_|trivial)
 refine ⟨yae.fn (by simp only [List.all_cons,ybj hp1];rfl) hf ?_⟩
 repeat' (first|omega|(try apply yaa);simp only [go_sem]|apply yab<;>(intro h_;(try simp only [h_]);revert h_)|apply And.intro|with_reducible intro h_|trivial)
 all_goals simp_all
theorem y6s (g:Nat) (cc:List AV) (ch:Int->Bool) (c:Int) (hp1:cc.all p1=true) (hf:Fn Tryz.prog g (I c::cc) (.bool (ch c))):
  Fn Tryz.prog 112 [I c, .rp (.lst [.fn g cc]) 0] (I (exSg ch c)):=by
 unfold exSg
 refine Fn.intro [.tmp 3] Tryz.func112 rfl rfl (by decide) (by simp [Tryz.ntmps112]) ?_;rw [Tryz.ntmps112]
 repeat' (first|omega|(try apply yaa);simp only [go_sem]|apply yab<;>(intro h_;(try simp only [h_]);revert h_)|apply And.intro|with_reducible intro h_|trivial)
 refine ⟨yae.fn (by simp only [List.all_cons,ybj hp1];rfl) hf ?_⟩
 repeat' (first|omega|(try apply yaa);simp only [go_sem]|apply yab<;>(intro h_;(try simp only [h_]);revert h_)|apply And.intro|with_reducible intro h_|trivial)
 all_goals simp_all
theorem yrt (s m:List Int) (L:Int) (g:Nat) (cc:List AV) (ch:Int->Bool) (hs:s.length<=1000) (hso:ycy s s.length) (hm:ycl m s.length) (hp1:cc.all p1=true) (hf: ∀c:Int,0<=c->c<s.length->Fn Tryz.prog g (I c::cc) (.bool (ch c))):
  Fn Tryz.prog 93 [dgA s m L, .fn g cc] (dgA (exS s ch) (exM s m ch) L):=by
 have hmv:=y4v s m L 110 112 [.rp (.lst [.fn g cc]) 0, .rp (dgC s m L) 0] [.rp (.lst [.fn g cc]) 0] (fun c _=>exBy s ch c) (exSg ch) hs hm rfl rfl
  (fun c x c0 c1 _ _=>y6r s m L g cc ch c x c0 c1 hp1 (hf c c0 c1)) (fun c hc=>⟨y6s g cc ch c hp1 (hf c (by omega) (by omega)),by
   have:=hso c hc;unfold exSg InI;split<;>rcases this with h|h<;>rw [h]<;>omega⟩)
 refine Fn.intro [.cell 4 45] Tryz.func93 rfl rfl (by decide) (by simp [Tryz.ntmps93]) ?_;rw [Tryz.ntmps93]
 repeat' (first|omega|(try apply yaa);simp only [go_sem]|apply yab<;>(intro h_;(try simp only [h_]);revert h_)|apply And.intro|with_reducible intro h_|trivial)
 refine ⟨yae.frz [0,1] rfl (by simp only [go_sem,ya5 hp1,yaz hp1,yay hp1,yas hp1]) (by simp only [go_sem,ya5 hp1,yaz hp1,yay hp1,yas hp1]) (by simp only [go_sem,ya5 hp1,yaz hp1,yay hp1,yas hp1]) (by simp only [go_sem,ya5 hp1,yaz hp1,yay hp1,yas hp1]) ?_ rfl rfl (yae.fn ?_ hmv ?_)⟩
 ·rfl
 ·rfl
 repeat' (first|omega|(try apply yaa);simp only [go_sem]|apply yab<;>(intro h_;(try simp only [h_]);revert h_)|apply And.intro|with_reducible intro h_|trivial)
end Go.Proofs.YtfgbnalnbdhimaaGreatDoor
set_option linter.unusedSimpArgs false
set_option linter.unusedVariables false
namespace Go.Proofs.YtfgbnalnbdhimaaGreatDoor
open Go Go.RowKit
set_option maxRecDepth 100000
set_option maxHeartbeats 4000000
theorem yru (x c:Int):Fn Tryz.prog 94 [I x, .rp (.lst [I c]) 0] (.bool (x==c)):=by
 refine Fn.intro [.tmp 3] Tryz.func94 rfl rfl (by decide) (by simp [Tryz.ntmps94]) ?_;rw [Tryz.ntmps94]
 repeat' (first|omega|(try apply yaa);simp only [go_sem]|apply yab<;>(intro h_;(try simp only [h_]);revert h_)|apply And.intro|with_reducible intro h_|trivial)
abbrev y6t:AV:= .agg [.nils, .nils,I 0]
attribute [go_sem] y6t
theorem yyn (s m:List Int) (L c:Int) (h0:0<=c) (h1:c<s.length) (hv:ya4 s m L=true):Fn Tryz.prog 68 [dgA s m L,I c] (.tup [dgA (exS s (· ==c)) (exM s m (· ==c)) L,I 0]):=by
 have v1:=ya8 hv
 have h64:=v1.s64
 have hf:=yrt s m L 94 [.rp (.lst [I c]) 0] (· ==c) (by omega) v1.sg v1.prd.ok rfl (fun x _ _=>yru x c)
 refine Fn.intro [.cell 4 45, .tmp 5] Tryz.func68 rfl rfl (by decide) (by simp [Tryz.ntmps68]) ?_;rw [Tryz.ntmps68]
 repeat' (first|omega|(try apply yaa);simp only [go_sem]|apply yab<;>(intro h_;(try simp only [h_]);revert h_)|apply And.intro|with_reducible intro h_|trivial)
 refine ⟨yae.fn rfl (yen s m L) ?_⟩
 rw [hv]
 repeat' (first|omega|(try apply yaa);simp only [go_sem]|apply yab<;>(intro h_;(try simp only [h_]);revert h_)|apply And.intro|with_reducible intro h_|trivial)
 refine ⟨yae.frz [1] rfl (by simp only [go_sem]) (by simp only [go_sem]) (by simp only [go_sem]) (by simp only [go_sem]) rfl rfl rfl (yae.fn rfl hf ?_)⟩
 repeat' (first|omega|(try apply yaa);simp only [go_sem]|apply yab<;>(intro h_;(try simp only [h_]);revert h_)|apply And.intro|with_reducible intro h_|trivial)
end Go.Proofs.YtfgbnalnbdhimaaGreatDoor
set_option linter.unusedSimpArgs false
set_option linter.unusedVariables false
namespace Go.Proofs.YtfgbnalnbdhimaaGreatDoor
open Go Go.RowKit
set_option maxRecDepth 100000
set_option maxHeartbeats 4000000
theorem yyo (l:List Int) (h:0<l.length) (hb:l.length<=100000):FnO Tryz.prog 91 [roI l] (.sl 1 0 0 l.length) [(0, .cells 3 (.ints l))]:=by
 refine FnO.intro [.tmp 2] Tryz.func91 rfl rfl (by decide) (by simp [Tryz.ntmps91]) ?_;rw [Tryz.ntmps91]
 repeat' (first|omega|(try apply yaa);simp only [go_sem]|apply yab<;>(intro h_;(try simp only [h_]);revert h_)|apply And.intro|with_reducible intro h_|trivial)
end Go.Proofs.YtfgbnalnbdhimaaGreatDoor
set_option linter.unusedSimpArgs false
set_option linter.unusedVariables false
namespace Go.Proofs.YtfgbnalnbdhimaaGreatDoor
open Go Go.RowKit
set_option maxRecDepth 100000
set_option maxHeartbeats 4000000
theorem yva (s m:List Int) (c:Nat) (L:Int) (hs:s.length<=1000) (hm:ycl m s.length):Fn Tryz.prog 92 [roI s,roI m,I c,I L] (dgA (woS s c s.length) (woM m c s.length) L):=by
 have hml:=hm.1
 refine Fn.introL [.cell 8 45] Tryz.func92 rfl rfl (by decide) (by simp [Tryz.ntmps92]) ?_;rw [Tryz.ntmps92]
 repeat' (first|omega|(try apply yaa);simp only [go_sem]|apply yab<;>(intro h_;(try simp only [h_]);revert h_)|apply And.intro|with_reducible intro h_|trivial)
 refine yai.intro (fun n fr H=> ∃k:Nat,k<=s.length/\n=s.length-k/\fr=[(18,I k),(17,I s.length),(16,roI s),(9, .ptr 1 0),(8, .ptr 0 0),(1,roI m),(2,I c)]/\((woS s c k=[]/\woM m c k=[]/\H=[(1, .cells 45 (.lst [.nils, .nils,I L])),(0, .cells 45 (.lst [.nils, .nils,I 0]))])\/H=[(5, .cells 3 (.ints (woM m c k))),(3, .cells 3 (.ints (woS s c k))),(1, .cells 45 (.lst [.sl 1 3 0 (woS s c k).length, .sl 1 5 0 (woM m c k).length,I L])),(0, .cells 45 (.lst [.nils, .nils,I 0]))])) ?_ ?_
 ·refine ⟨_,_,_,?_,0,by omega,rfl,rfl, .inl ⟨rfl,rfl,rfl⟩⟩
  refine Wk.sub ?_ ?_<;>simp only [go_sem]
 rintro n fr H ⟨k,hk,rfl,rfl,hcase⟩
 have wl1:=ysg s c k
 have wl2:=ysh m c k
 by_cases hkl:k<s.length
 ·rcases hcase with ⟨hn1,hn2,rfl⟩|rfl
  ·repeat' (first|omega|(try apply yaa);simp only [go_sem]|apply yab<;>(intro h_;(try simp only [h_]);revert h_)|apply And.intro|with_reducible intro h_|trivial)
   ·have ek:woS s c (k+1)=woS s c k/\woM m c (k+1)=woM m c k:=by
     have:k=c:=by omega
     simp [woS,woM,this]
    refine ⟨_,_,_,?_,?_,⟨k+1,by omega,rfl,rfl, .inl ⟨by rw [ek.1];exact hn1,by rw [ek.2];exact hn2,rfl⟩⟩⟩
    ·omega
    ·refine Wk.sub ?_ ?_<;>simp only [go_sem]
     all_goals simp_all
   ·have hkc:k≠c:=by omega
    have ek:woS s c (k+1)=woS s c k++[s.getD k 0]/\woM m c (k+1)=woM4 m c k (woM m c k) 4:=by
     simp [woS,woM,hkc]
    refine yai.intro (fun j fr H=> ∃x:Nat,x<=4/\j=4-x/\fr=[(32,I x),(10,I k),(18,I k),(17,I s.length),(16,roI s),(9, .ptr 1 0),(8, .ptr 0 0),(1,roI m),(2,I c)]/\((x=0/\woM m c k=[]/\H=[(3, .cells 3 (.ints (woS s c k++[s.getD k 0]))),(1, .cells 45 (.lst [.sl 1 3 0 (woS s c k++[s.getD k 0]).length, .nils,I L])),(0, .cells 45 (.lst [.nils, .nils,I 0]))])\/H=[(5, .cells 3 (.ints (woM4 m c k (woM m c k) x))),(3, .cells 3 (.ints (woS s c k++[s.getD k 0]))),(1, .cells 45 (.lst [.sl 1 3 0 (woS s c k++[s.getD k 0]).length, .sl 1 5 0 (woM4 m c k (woM m c k) x).length,I L])),(0, .cells 45 (.lst [.nils, .nils,I 0]))])) ?_ ?_
    ·refine ⟨_,_,_,?_,0,by omega,rfl,rfl, .inl ⟨rfl,hn2,rfl⟩⟩
     refine Wk.sub ?_ ?_<;>simp only [go_sem]
     all_goals simp_all [woM4]
    rintro j fr H ⟨x,hx,rfl,rfl,hin⟩
    have wl4:=yhr m c k (woM m c k) x
    by_cases hx4:x<4
    ·have hmr:=hm.2 (4*k+x) (by omega)
     have e0:(4*(k:Int)+x).toNat=4*k+x:=by omega
     have e2:(m.getD (4*k+x) 0).tdiv 4=m.getD (4*k+x) 0/4:=yc1 hmr.1
     have eW:woM4 m c k (woM m c k) (x+1)=woM4 m c k (woM m c k) x++[cutM m c (4*k+x)]:=rfl
     rcases hin with ⟨rfl,hwn,rfl⟩|rfl
     ·have hmr0:=hm.2 (4*k) (by omega)
      have e3:(4*(k:Int)).toNat=4*k:=by omega
      have e4:(m.getD (4*k) 0).tdiv 4=m.getD (4*k) 0/4:=yc1 hmr0.1
      repeat' (first|omega|(try apply yaa);simp only [go_sem,e3,e4]|apply yab<;>(intro h_;(try simp only [h_]);revert h_)|apply And.intro|with_reducible intro h_|trivial)
      ·have hcut:cutM m c (4*k)=m.getD (4*k) 0-4:=by unfold cutM;rw [if_pos (by omega)]
       have e5:woM4 m c k (woM m c k) 1=[m.getD (4*k) 0-4]:=by simp only [woM4,hwn,Nat.add_zero,hcut,List.nil_append]
       refine ⟨_,_,_,?_,?_,⟨1,by omega,rfl,rfl, .inr rfl⟩⟩
       ·omega
       ·refine Wk.sub ?_ ?_<;>(simp only [go_sem,e5])
      ·have hcut:cutM m c (4*k)=m.getD (4*k) 0:=by unfold cutM;rw [if_neg (by omega)]
       have e5:woM4 m c k (woM m c k) 1=[m.getD (4*k) 0]:=by simp only [woM4,hwn,Nat.add_zero,hcut,List.nil_append]
       refine ⟨_,_,_,?_,?_,⟨1,by omega,rfl,rfl, .inr rfl⟩⟩
       ·omega
       ·refine Wk.sub ?_ ?_<;>(simp only [go_sem,e5])
     ·repeat' (first|omega|(try apply yaa);simp only [go_sem,e0,e2]|apply yab<;>(intro h_;(try simp only [h_]);revert h_)|apply And.intro|with_reducible intro h_|trivial)
      ·have hcut:cutM m c (4*k+x)=m.getD (4*k+x) 0-4:=by unfold cutM;rw [if_pos (by omega)]
       refine ⟨_,_,_,?_,?_,⟨x+1,by omega,rfl,rfl, .inr rfl⟩⟩
       ·omega
       ·refine Wk.sub ?_ ?_<;>(simp only [go_sem,eW,hcut,List.length_append])
      ·have hcut:cutM m c (4*k+x)=m.getD (4*k+x) 0:=by unfold cutM;rw [if_neg (by omega)]
       refine ⟨_,_,_,?_,?_,⟨x+1,by omega,rfl,rfl, .inr rfl⟩⟩
       ·omega
       ·refine Wk.sub ?_ ?_<;>(simp only [go_sem,eW,hcut,List.length_append])
    ·obtain rfl:x=4:=by omega
     rcases hin with ⟨h4,_⟩|rfl
     ·omega
     ·repeat' (first|omega|(try apply yaa);simp only [go_sem]|apply yab<;>(intro h_;(try simp only [h_]);revert h_)|apply And.intro|with_reducible intro h_|trivial)
      refine ⟨_,_,_,?_,?_,⟨k+1,by omega,rfl,rfl, .inr rfl⟩⟩
      ·omega
      ·refine Wk.sub ?_ ?_<;>(simp only [go_sem,ek.1,ek.2,List.length_append])
  ·repeat' (first|omega|(try apply yaa);simp only [go_sem]|apply yab<;>(intro h_;(try simp only [h_]);revert h_)|apply And.intro|with_reducible intro h_|trivial)
   ·have ek:woS s c (k+1)=woS s c k/\woM m c (k+1)=woM m c k:=by
     have:k=c:=by omega
     simp [woS,woM,this]
    refine ⟨_,_,_,?_,?_,⟨k+1,by omega,rfl,rfl, .inr rfl⟩⟩
    ·omega
    ·refine Wk.sub ?_ ?_<;>simp only [go_sem]
     all_goals simp_all
   ·have hkc:k≠c:=by omega
    have ek:woS s c (k+1)=woS s c k++[s.getD k 0]/\woM m c (k+1)=woM4 m c k (woM m c k) 4:=by
     simp [woS,woM,hkc]
    refine yai.intro (fun j fr H=> ∃x:Nat,x<=4/\j=4-x/\fr=[(32,I x),(10,I k),(18,I k),(17,I s.length),(16,roI s),(9, .ptr 1 0),(8, .ptr 0 0),(1,roI m),(2,I c)]/\((x=0/\woM m c k=[]/\H=[(3, .cells 3 (.ints (woS s c k++[s.getD k 0]))),(1, .cells 45 (.lst [.sl 1 3 0 (woS s c k++[s.getD k 0]).length, .nils,I L])),(0, .cells 45 (.lst [.nils, .nils,I 0]))])\/H=[(5, .cells 3 (.ints (woM4 m c k (woM m c k) x))),(3, .cells 3 (.ints (woS s c k++[s.getD k 0]))),(1, .cells 45 (.lst [.sl 1 3 0 (woS s c k++[s.getD k 0]).length, .sl 1 5 0 (woM4 m c k (woM m c k) x).length,I L])),(0, .cells 45 (.lst [.nils, .nils,I 0]))])) ?_ ?_
    ·refine ⟨_,_,_,?_,0,by omega,rfl,rfl, .inr rfl⟩
     refine Wk.sub ?_ ?_<;>simp only [go_sem]
     all_goals simp_all [woM4]
    rintro j fr H ⟨x,hx,rfl,rfl,hin⟩
    have wl4:=yhr m c k (woM m c k) x
    by_cases hx4:x<4
    ·have hmr:=hm.2 (4*k+x) (by omega)
     have e0:(4*(k:Int)+x).toNat=4*k+x:=by omega
     have e2:(m.getD (4*k+x) 0).tdiv 4=m.getD (4*k+x) 0/4:=yc1 hmr.1
     have eW:woM4 m c k (woM m c k) (x+1)=woM4 m c k (woM m c k) x++[cutM m c (4*k+x)]:=rfl
     rcases hin with ⟨rfl,hwn,rfl⟩|rfl
     ·have hmr0:=hm.2 (4*k) (by omega)
      have e3:(4*(k:Int)).toNat=4*k:=by omega
      have e4:(m.getD (4*k) 0).tdiv 4=m.getD (4*k) 0/4:=yc1 hmr0.1
      repeat' (first|omega|(try apply yaa);simp only [go_sem,e3,e4]|apply yab<;>(intro h_;(try simp only [h_]);revert h_)|apply And.intro|with_reducible intro h_|trivial)
      ·have hcut:cutM m c (4*k)=m.getD (4*k) 0-4:=by unfold cutM;rw [if_pos (by omega)]
       have e5:woM4 m c k (woM m c k) 1=[m.getD (4*k) 0-4]:=by simp only [woM4,hwn,Nat.add_zero,hcut,List.nil_append]
       refine ⟨_,_,_,?_,?_,⟨1,by omega,rfl,rfl, .inr rfl⟩⟩
       ·omega
       ·refine Wk.sub ?_ ?_<;>(simp only [go_sem,e5])
      ·have hcut:cutM m c (4*k)=m.getD (4*k) 0:=by unfold cutM;rw [if_neg (by omega)]
       have e5:woM4 m c k (woM m c k) 1=[m.getD (4*k) 0]:=by simp only [woM4,hwn,Nat.add_zero,hcut,List.nil_append]
       refine ⟨_,_,_,?_,?_,⟨1,by omega,rfl,rfl, .inr rfl⟩⟩
       ·omega
       ·refine Wk.sub ?_ ?_<;>(simp only [go_sem,e5])
     ·repeat' (first|omega|(try apply yaa);simp only [go_sem,e0,e2]|apply yab<;>(intro h_;(try simp only [h_]);revert h_)|apply And.intro|with_reducible intro h_|trivial)
      ·have hcut:cutM m c (4*k+x)=m.getD (4*k+x) 0-4:=by unfold cutM;rw [if_pos (by omega)]
       refine ⟨_,_,_,?_,?_,⟨x+1,by omega,rfl,rfl, .inr rfl⟩⟩
       ·omega
       ·refine Wk.sub ?_ ?_<;>(simp only [go_sem,eW,hcut,List.length_append])
      ·have hcut:cutM m c (4*k+x)=m.getD (4*k+x) 0:=by unfold cutM;rw [if_neg (by omega)]
       refine ⟨_,_,_,?_,?_,⟨x+1,by omega,rfl,rfl, .inr rfl⟩⟩
       ·omega
       ·refine Wk.sub ?_ ?_<;>(simp only [go_sem,eW,hcut,List.length_append])
    ·obtain rfl:x=4:=by omega
     rcases hin with ⟨h4,_⟩|rfl
     ·omega
     ·repeat' (first|omega|(try apply yaa);simp only [go_sem]|apply yab<;>(intro h_;(try simp only [h_]);revert h_)|apply And.intro|with_reducible intro h_|trivial)
      refine ⟨_,_,_,?_,?_,⟨k+1,by omega,rfl,rfl, .inr rfl⟩⟩
      ·omega
      ·refine Wk.sub ?_ ?_<;>(simp only [go_sem,ek.1,ek.2,List.length_append])
 ·obtain rfl:k=s.length:=by omega
  rcases hcase with ⟨hn1,hn2,rfl⟩|rfl
  ·repeat' (first|omega|(try apply yaa);simp only [go_sem]|apply yab<;>(intro h_;(try simp only [h_]);revert h_)|apply And.intro|with_reducible intro h_|trivial)
   rw [hn1,hn2]
   exact LeA.aggL (.cons (LeA.nils (by omega) rfl) (.cons (LeA.nils (by omega) rfl) (.cons (LeA.refl _) .nil)))
  ·repeat' (first|omega|(try apply yaa);simp only [go_sem]|apply yab<;>(intro h_;(try simp only [h_]);revert h_)|apply And.intro|with_reducible intro h_|trivial)
   exact LeA.of (by rw [List.take_of_length_le (by omega),List.take_of_length_le (by omega)])
end Go.Proofs.YtfgbnalnbdhimaaGreatDoor
set_option linter.unusedSimpArgs false
set_option linter.unusedVariables false
namespace Go.Proofs.YtfgbnalnbdhimaaGreatDoor
open Go Go.RowKit
set_option maxRecDepth 100000
set_option maxHeartbeats 8000000
def y6u:TbA:=[(10,[[49,50,51,52,53,54,55,56,57,58],[48,50,51,52,53,54,55,56,57,58],[48,49,51,52,53,54,55,56,57,58],[51,52,53,54,55,56,57,58],[48,49,50,52,53,54,55,56,57,58],[48,49,50,51,53,54,55,56,57,58],[49,50,53,54,55,56,57,58],[48,49,50,51,52,54,55,56,57,58],[48,49,50,51,52,53,56,57,58],[48,49,50,51,52,53,56,57,58],[49,50,51,52,56,57,58],[48,49,50,51,52,53,54,55,58],[48,49,50,51,52,53,54,55,58],[48,49,50,51,52,53,54,55,56,57],[49,50,51,52,53,54,55],[],[]],[[],[0],[0,1],[],[0,1,2,3],[0,1,2,3,4],[1,2,3],[0,1,2,3,4,5,6],[0,1,2,3,4,5,6,7],[0,1,2,3,4,5,6,7],[1,2,3,4,5,6],[0,1,2,3,4,5,6,7,8,9,10],[0,1,2,3,4,5,6,7,8,9,10],[0,1,2,3,4,5,6,7,8,9,10,11,12],[1,2,3,4,5,6,7,8,9,10],[],[]])]
def jmI (f o i:Int):Int->Option Int:=updI (updI (updI (updI (fun _=>none) f o) o f) i (f+2)) (f+2) i
theorem y4w (c:Nat) (b:Bool) (x:Int) (hx:x/4=c):(jmI (4*c) (if b then 4*c+3 else 4*c+1) (if b then 4*c+1 else 4*c+3) x).getD 0=jnB b x:=by
 have h4:x=4*c\/x=4*c+1\/x=4*c+2\/x=4*c+3:=by omega
 unfold jnB
 rw [yhq,ye1]
 cases b<;>rcases h4 with rfl|rfl|rfl|rfl<;>simp [jmI,updI]<;>(repeat' (first|(split<;>(try simp))|omega))
def innI (c:Nat) (b:Bool):Int:=if b then 4*c+1 else 4*c+3
def outI (c:Nat) (b:Bool):Int:=if b then 4*c+3 else 4*c+1
theorem y1j (c:Nat) (b:Bool):innI c b/4=c:=by
 unfold innI;cases b
 ·rw [if_neg (by simp)];omega
 ·rw [if_pos rfl];omega
def Hol (g:Int->Option Bool) (u:Int->Bool):Prop:= ∀x,(g x).getD false=u x
theorem Hol.two {g:Int->Option Bool} {u:Int->Bool} (h:Hol g u) (x y:Int):Hol (updB (updB g x true) y true) (usd u x y):=by
 intro z
 simp only [updB,usd]
 by_cases e1:z=y
 ·rw [if_pos e1,e1];simp
 ·rw [if_neg e1]
  by_cases e2:z=x
  ·rw [if_pos e2,e2];simp
  ·have q1:(z==x)=false:=by simpa using e2
   have q2:(z==y)=false:=by simpa using e1
   rw [if_neg e2,h z,q1,q2];simp
theorem yyp (s m:List Int) (L:Int) (c:Nat) (hc:c<s.length) (hL:L<=62) (hv:ya4 s m L=true) (b:Bool) (hb:(s.getD c 0== -1)=b):
  Fn Tryz.prog 67 [dgA s m L,I c] (.tup [dgA (woS s c s.length) (woM (smE m b c (4*s.length)) c s.length) (L+smL m b c s.length),I 0]):=by
 have v1:=ya8 hv
 have h64:=v1.s64
 have hl:=v1.len
 have hl0:=v1.l0
 have hsg:=v1.sg c hc
 have hp:=v1.prd
 have hcl:=yyo m (by omega) (by omega)
 obtain ⟨i,hi⟩: ∃i,i=innI c b:=⟨_,rfl⟩
 obtain ⟨jm,hjme⟩: ∃jm,jm=jmI (4*c) (outI c b) (innI c b):=⟨_,rfl⟩
 have hjm: ∀x:Int,x/4=c->(jm x).getD 0=jnB b x:=fun x hx=>by rw [hjme];exact y4w c b x hx
 have hid:=y1j c b
 rw [←hi] at hid
 have hsc:(s.getD c 0= -1/\i=4*c+1/\jm=updI (updI (updI (updI (fun _=>none) (4*c) (4*c+3)) (4*c+3) (4*c)) (4*c+1) (4*c+2)) (4*c+2) (4*c+1))\/
   (s.getD c 0≠ -1/\i=4*c+3/\jm=updI (updI (updI (updI (fun _=>none) (4*c) (4*c+1)) (4*c+1) (4*c)) (4*c+3) (4*c+2)) (4*c+2) (4*c+3)):=by
  cases b
  ·exact .inr ⟨by simpa using hb,hi,hjme⟩
  ·exact .inl ⟨by simpa using hb,hi,hjme⟩
 have hii:i=innI c b:=hi
 clear hjme hi
 refine Fn.intro [.cell 4 45, .tmp 5] Tryz.func67 rfl rfl (by decide) (by simp [Tryz.ntmps67]) ?_;rw [Tryz.ntmps67]
 repeat' (first|omega|(try apply yaa);simp only [go_sem]|apply yab<;>(intro h_;(try simp only [h_]);revert h_)|apply And.intro|with_reducible intro h_|trivial)
 refine ⟨yae.fn rfl (yen s m L) ?_⟩
 rw [hv]
 rcases hsc with ⟨hs1,hi1,hj1⟩|⟨hs1,hi1,hj1⟩
 all_goals repeat' (first|omega|(first|apply yaa|refine tbN y6u ?_|skip);simp only [go_sem]|apply yab<;>(intro h_;(try simp only [h_]);revert h_)|apply And.intro|with_reducible intro h_|trivial)
 all_goals first|(repeat' split)<;>first|omega|rfl|(refine ⟨yae.fno rfl hcl ?_⟩)
 all_goals repeat' (first|omega|(try apply yaa);simp only [go_sem]|apply yab<;>(intro h_;(try simp only [h_]);revert h_)|apply And.intro|with_reducible intro h_|trivial)
 all_goals (
  refine yai.intro (fun n fr H=> ∃(h:Nat) (g:Int->Option Bool),h<=m.length/\n=m.length-h/\Hol g (smU m b c h)/\fr=[(67,I h),(66,I m.length),(65,roI m),(12, .mp 4),(11, .sl 1 3 0 m.length),(10, .mp 2),(8,I i),(7,I (4*c)),(4, .ptr 1 0),(2, .ptr 0 0),(1,I c)]/\H=[(4, .fmap 137 (.bools g)),(3, .cells 3 (.ints (smE m b c h))),(2, .fmap 135 (.ints jm)),(1, .cells 45 (.lst [.nils, .nils,I 0])),(0, .cells 45 (.lst [roI s,roI m,I L]))]) ?_ ?_
  ·refine ⟨_,_,_,?_,0,fun _=>none,by omega,rfl,fun _=>rfl,rfl,rfl⟩
   refine Wk.sub ?_ ?_<;>simp only [go_sem]
   all_goals simp [hi1,hj1,smE]
  rintro n fr H ⟨h,g,hh,rfl,hg,rfl,rfl⟩
  have hel:=ymv (m:=m) (b:=b) (c:=c) h
  by_cases hhl:h<m.length
  ·have e1:(h:Int).tdiv 4=(h/4:Nat):=by rw [yc1 (by omega)];omega
   have hmr:=hp.ok.2 h (by omega)
   repeat' (first|omega|(try apply yaa);simp only [go_sem,e1]|apply yab<;>(intro h_;(try simp only [h_]);revert h_)|apply And.intro|with_reducible intro h_|trivial)
   ·have hhc:h/4=c:=by omega
    refine ⟨_,_,_,?_,?_,⟨h+1,g,by omega,rfl,?_,rfl,rfl⟩⟩
    ·omega
    ·refine Wk.sub ?_ ?_<;>simp only [go_sem]
     all_goals simp [smE,hhc]
    ·simp only [smU,hhc,if_true];exact hg
   ·have hhc:h/4≠c:=by omega
    have ho:=yko (b:=b) hp hc (show h<4*s.length by omega) hhc
    refine yai.intro (fun f fr H=> ∃(x:Int) (u:Int->Bool) (g:Int->Option Bool),0<=x/\x<4*s.length/\thrX m b c f x=thrX m b c 5 (m.getD h 0)/\thrU m b c f x u=thrU m b c 5 (m.getD h 0) (smU m b c h)/\Hol g u/\fr=[(14,I x),(13,I h),(67,I h),(66,I m.length),(65,roI m),(12, .mp 4),(11, .sl 1 3 0 m.length),(10, .mp 2),(8,I i),(7,I (4*c)),(4, .ptr 1 0),(2, .ptr 0 0),(1,I c)]/\H=[(4, .fmap 137 (.bools g)),(3, .cells 3 (.ints (smE m b c h))),(2, .fmap 135 (.ints jm)),(1, .cells 45 (.lst [.nils, .nils,I 0])),(0, .cells 45 (.lst [roI s,roI m,I L]))]) ?_ ?_
    ·refine ⟨5,_,_,?_,m.getD h 0,smU m b c h,g,hmr.1,hmr.2,rfl,rfl,hg,rfl,rfl⟩
     refine Wk.sub ?_ ?_<;>simp only [go_sem]
    rintro f fr H ⟨x,u,g',hx0,hx1,hX,hU,hg',rfl,rfl⟩
    have e2:x.tdiv 4=x/4:=yc1 hx0
    by_cases hxc:x/4=c
    ·obtain ⟨f',rfl⟩: ∃f',f=f'+1:=by
      cases f with
      |zero=>rw [←hX] at ho;exact absurd hxc ho
      |succ f'=>exact ⟨f',rfl⟩
     have ej:=hjm x hxc
     have hjd:=ydg b x
     have hmj:=hp.ok.2 (jnB b x).toNat (by omega)
     rw [ysf hxc] at hX
     rw [y3k hxc] at hU
     repeat' (first|omega|(try apply yaa);simp only [go_sem,e2,ej]|apply yab<;>(intro h_;(try simp only [h_]);revert h_)|apply And.intro|with_reducible intro h_|trivial)
     refine ⟨f',_,_,?_,?_,⟨m.getD (jnB b x).toNat 0,usd u x (jnB b x),updB (updB g' x true) (jnB b x) true,hmj.1,hmj.2,hX,hU,hg'.two x _,rfl,rfl⟩⟩
     ·omega
     ·refine Wk.sub ?_ ?_<;>simp only [go_sem]
    ·rw [ymu hxc] at hX
     rw [y3l hxc] at hU
     repeat' (first|omega|(try apply yaa);simp only [go_sem,e2]|apply yab<;>(intro h_;(try simp only [h_]);revert h_)|apply And.intro|with_reducible intro h_|trivial)
     refine ⟨_,_,_,?_,?_,⟨h+1,g',by omega,rfl,?_,rfl,rfl⟩⟩
     ·omega
     ·refine Wk.sub ?_ ?_<;>simp only [go_sem]
      all_goals simp [smE,hhc,hX]
     ·simp only [smU,hhc,if_false];rw [←hU];exact hg'
  ·obtain rfl:h=m.length:=by omega
   rw [hl] at hel hg⊢
   repeat' (first|omega|(try apply yaa);simp only [go_sem]|apply yab<;>(intro h_;(try simp only [h_]);revert h_)|apply And.intro|with_reducible intro h_|trivial)
   have hse:=y5q (b:=b) hp hc (4*s.length) (Nat.le_refl _)
   have hin: ∀x:Int,x/4=c->smU m b c (4*s.length) x=false->nxC m b x/4=(c:Int):=fun x hx hu=>y5r hp hc hx hu
   have hsml:smL m b c s.length=(if smU m b c (4*s.length) (4*c) then 0 else 1)+(if (if smU m b c (4*s.length) (4*c) then smU m b c (4*s.length) else lpU m b 5 (4*c) (smU m b c (4*s.length))) i then 0 else 1):=by
    rw [hii];rfl
   generalize smU m b c (4*s.length)=u0 at*
   refine yai.intro (fun n fr H=> ∃(k:Nat) (u:Int->Bool) (g:Int->Option Bool) (l:Int),n=2-k/\((k=0/\u=u0/\l=L)\/(k=1/\u=(if u0 (4*c) then u0 else lpU m b 5 (4*c) u0)/\l=L+(if u0 (4*c) then 0 else 1))\/(k=2/\l=L+smL m b c s.length))/\(∀y,u0 y=true->u y=true)/\Hol g u/\
    fr=[(103,I k),(102,I (2:Nat)),(101, .sl 1 5 0 2),(15,I l),(12, .mp 4),(11, .sl 1 3 0 (4*s.length)),(10, .mp 2),(4, .ptr 1 0),(2, .ptr 0 0),(1,I c)]/\H=[(5, .cells 3 (.ints [4*(c:Int),i])),(4, .fmap 137 (.bools g)),(3, .cells 3 (.ints (smE m b c (4*s.length)))),(2, .fmap 135 (.ints jm)),(1, .cells 45 (.lst [.nils, .nils,I 0])),(0, .cells 45 (.lst [roI s,roI m,I L]))]) ?_ ?_
   ·refine ⟨_,_,_,?_,0,u0,g,L,rfl, .inl ⟨rfl,rfl,rfl⟩,fun _ h=>h,hg,rfl,rfl⟩
    refine Wk.sub ?_ ?_<;>simp only [go_sem]
   rintro n fr H ⟨k,u,g,l,rfl,hk,hsup,hg,rfl,rfl⟩
   by_cases hk2:k=2
   ·subst hk2
    obtain rfl:l=L+smL m b c s.length:=by omega
    have hlb:0<=smL m b c s.length/\smL m b c s.length<=2:=by rw [hsml];constructor<;>(repeat' split)<;>omega
    have hwo:=yva s (smE m b c (4*s.length)) c (L+smL m b c s.length) (by omega) hse
    repeat' (first|omega|(try apply yaa);simp only [go_sem]|apply yab<;>(intro h_;(try simp only [h_]);revert h_)|apply And.intro|with_reducible intro h_|trivial)
    have hwo':Fn Tryz.prog 92 [roI s, .ro 1 (4*s.length) (.ints ((smE m b c (4*s.length)).take (4*s.length))),I c,I (L+smL m b c s.length)] (dgA (woS s c s.length) (woM (smE m b c (4*s.length)) c s.length) (L+smL m b c s.length)):=by
     rw [List.take_of_length_le (by omega)]
     have e:roI (smE m b c (4*s.length))= .ro 1 (4*s.length) (.ints (smE m b c (4*s.length))):=by unfold roI;rw [hel]
     rw [e] at hwo;exact hwo
    refine ⟨yae.frz [3] rfl (by simp only [go_sem,hel,Nat.le_refl]) (by simp only [go_sem,hel,Nat.le_refl]) (by simp only [go_sem,hel,Nat.le_refl]) (by simp only [go_sem,hel,Nat.le_refl]) rfl rfl rfl (yae.fn rfl hwo' ?_)⟩
    repeat' (first|omega|(try apply yaa);simp only [go_sem]|apply yab<;>(intro h_;(try simp only [h_]);revert h_)|apply And.intro|with_reducible intro h_|trivial)
   ·have hstart:[4*(c:Int),i].getD k 0/4=(c:Int):=by
     rcases hk with ⟨rfl,_⟩|⟨rfl,_⟩|⟨rfl,_⟩
     ·simp only [List.getD_cons_zero];omega
     ·simpa using hid
     ·omega
    have hk01:k<2:=by omega
    have hlb:L<=l/\l<=L+1:=by
     rcases hk with ⟨_,_,h⟩|⟨_,_,h⟩|⟨h,_⟩
     ·omega
     ·rw [h];split<;>omega
     ·omega
    have hgs:=hg ([4*(c:Int),i].getD k 0)
    have hnT:u ([4*(c:Int),i].getD k 0)=true->((k+1=0/\u=u0/\l=L)\/(k+1=1/\u=(if u0 (4*c) then u0 else lpU m b 5 (4*c) u0)/\l=L+(if u0 (4*c) then 0 else 1))\/(k+1=2/\l=L+smL m b c s.length)):=fun ht=>by
     rcases hk with ⟨rfl,rfl,rfl⟩|⟨rfl,hu,rfl⟩|⟨rfl,_⟩
     ·simp only [List.getD_cons_zero] at ht
      exact .inr (.inl ⟨rfl,by rw [if_pos ht],by rw [if_pos ht];omega⟩)
     ·simp only [List.getD_cons_succ,List.getD_cons_zero] at ht
      rw [hu] at ht
      exact .inr (.inr ⟨rfl,by rw [hsml,if_pos ht];omega⟩)
     ·omega
    have hnF:u ([4*(c:Int),i].getD k 0)=false->((k+1=0/\lpU m b 5 ([4*(c:Int),i].getD k 0) u=u0/\l+1=L)\/(k+1=1/\lpU m b 5 ([4*(c:Int),i].getD k 0) u=(if u0 (4*c) then u0 else lpU m b 5 (4*c) u0)/\l+1=L+(if u0 (4*c) then 0 else 1))\/(k+1=2/\l+1=L+smL m b c s.length)):=fun ht=>by
     rcases hk with ⟨rfl,rfl,rfl⟩|⟨rfl,hu,rfl⟩|⟨rfl,_⟩
     ·have ht': ¬u (4*c)=true:=by simp only [List.getD_cons_zero] at ht;rw [ht];simp
      exact .inr (.inl ⟨rfl,(if_neg ht').symm,by rw [if_neg ht']⟩)
     ·simp only [List.getD_cons_succ,List.getD_cons_zero] at ht
      rw [hu] at ht
      exact .inr (.inr ⟨rfl,by rw [hsml,ht];simp;omega⟩)
     ·omega
    obtain ⟨st,hst⟩: ∃st,[4*(c:Int),i].getD k 0=st:=⟨_,rfl⟩
    rw [hst] at hstart hgs hnT hnF
    repeat' (first|omega|(try apply yaa);simp only [go_sem,hst,hgs]|apply yab<;>(intro h_;(try simp only [h_]);revert h_)|apply And.intro|with_reducible intro h_|trivial)
    ·refine ⟨_,_,_,?_,?_,⟨k+1,u,g,l,rfl,hnT (by assumption),hsup,hg,rfl,rfl⟩⟩
     ·omega
     ·refine Wk.sub ?_ ?_<;>simp only [go_sem]
    ·have hsf:u st=false:=by assumption
     have hfr:=y0h (c:=c) u
     refine yai.intro (fun f fr H=> ∃(h:Int) (u':Int->Bool) (g':Int->Option Bool),h/4=c/\lpU m b f h u'=lpU m b 5 st u/\yjc c u'<f/\(∀y,u0 y=true->u' y=true)/\Hol g' u'/\
      fr=[(18,I h),(103,I k),(102,I (2:Nat)),(101, .sl 1 5 0 2),(15,I (l+1)),(12, .mp 4),(11, .sl 1 3 0 (4*s.length)),(10, .mp 2),(4, .ptr 1 0),(2, .ptr 0 0),(1,I c)]/\H=[(5, .cells 3 (.ints [4*(c:Int),i])),(4, .fmap 137 (.bools g')),(3, .cells 3 (.ints (smE m b c (4*s.length)))),(2, .fmap 135 (.ints jm)),(1, .cells 45 (.lst [.nils, .nils,I 0])),(0, .cells 45 (.lst [roI s,roI m,I L]))]) ?_ ?_
     ·refine ⟨5,_,_,?_,st,u,g,hstart,rfl,by omega,hsup,hg,rfl,rfl⟩
      refine Wk.sub ?_ ?_<;>simp only [go_sem]
     rintro f fr H ⟨h,u',g',hhc,hlp,hfr',hsup',hg',rfl,rfl⟩
     have hgh:=hg' h
     have ejh:=hjm h hhc
     have hjd:=ydg b h
     have hmj:=hp.ok.2 (jnB b h).toNat (by omega)
     cases huh:u' h with
     |true=>
      rw [huh] at hgh
      rw [y7j huh] at hlp
      repeat' (first|omega|(try apply yaa);simp only [go_sem,hgh]|apply yab<;>(intro h_;(try simp only [h_]);revert h_)|apply And.intro|with_reducible intro h_|trivial)
      refine ⟨_,_,_,?_,?_,⟨k+1,u',g',l+1,rfl,by rw [hlp];exact hnF hsf,hsup',hg',rfl,rfl⟩⟩
      ·omega
      ·refine Wk.sub ?_ ?_<;>simp only [go_sem]
     |false=>
      rw [huh] at hgh
      obtain ⟨f',rfl⟩: ∃f',f=f'+1:=⟨f-1,by omega⟩
      rw [y7k huh] at hlp
      have hf2:=yw1 (c:=c) (u:=u') (x:=h) (y:=jnB b h) hhc huh
      have hu0:u0 h=false:=by
       cases hq:u0 h with
       |false=>rfl
       |true=>have:=hsup' h hq;rw [huh] at this;cases this
      have hnx:=hin h hhc hu0
      repeat' (first|omega|(try apply yaa);simp only [go_sem,hgh,ejh]|apply yab<;>(intro h_;(try simp only [h_]);revert h_)|apply And.intro|with_reducible intro h_|trivial)
      refine ⟨f',_,_,?_,?_,⟨nxC m b h,usd u' h (jnB b h),updB (updB g' h true) (jnB b h) true,hnx,hlp,by omega,fun y hy=>by simp [usd,hsup' y hy],hg'.two h _,rfl,rfl⟩⟩
      ·omega
      ·refine Wk.sub ?_ ?_<;>simp only [go_sem]
       rfl)
end Go.Proofs.YtfgbnalnbdhimaaGreatDoor
set_option linter.unusedSimpArgs false
set_option linter.unusedVariables false
namespace Go.Proofs.YtfgbnalnbdhimaaGreatDoor
open Go Go.RowKit
set_option maxRecDepth 100000
set_option maxHeartbeats 4000000
theorem y1k (g:Nat) (c:Cs) (nx:Int->Int) (x:Int) (k:Nat) (hk:Per nx x k) (hb:k<=100000) (hf: ∀j,j<k->Fn Tryz.prog g [I (it nx j x), .rp c 0] (I (it nx (j+1) x))):
  Fn Tryz.prog 113 [I x, .fn g [.rp c 0]] (roI (its nx x k)):=by
 have k0:=hk.pos
 refine Fn.intro [.tmp 4] Tryz.func113 rfl rfl (by decide) (by simp [Tryz.ntmps113]) ?_;rw [Tryz.ntmps113]
 repeat' (first|omega|(try apply yaa);simp only [go_sem]|apply yab<;>(intro h_;(try simp only [h_]);revert h_)|apply And.intro|with_reducible intro h_|trivial)
 refine ⟨yae.fn rfl (hf 0 k0) ?_⟩
 repeat' (first|omega|(try apply yaa);simp only [go_sem]|apply yab<;>(intro h_;(try simp only [h_]);revert h_)|apply And.intro|with_reducible intro h_|trivial)
 refine yai.intro (fun n fr H=> ∃j:Nat,0<j/\j<=k/\n=k-j/\fr=[(6,I (it nx j x)),(5, .sl 1 0 0 j),(1, .fn g [.rp c 0]),(0,I x)]/\H=[(0, .cells 3 (.ints (its nx x j)))]) ?_ ?_
 ·refine ⟨_,_,_,?_,1,by omega,by omega,rfl,rfl,rfl⟩
  refine Wk.sub ?_ ?_<;>simp only [go_sem]
  rfl
 rintro n fr H ⟨j,hj,hjk,rfl,rfl,rfl⟩
 have e1:=ymr nx x j
 have e2:=ymr nx x k
 by_cases hjl:j<k
 ·have hne:=hk.first j hj hjl
  repeat' (first|omega|(try apply yaa);simp only [go_sem]|apply yab<;>(intro h_;(try simp only [h_]);revert h_)|apply And.intro|with_reducible intro h_|trivial)
  refine ⟨yae.fn rfl (hf j hjl) ?_⟩
  repeat' (first|omega|(try apply yaa);simp only [go_sem]|apply yab<;>(intro h_;(try simp only [h_]);revert h_)|apply And.intro|with_reducible intro h_|trivial)
  refine ⟨_,_,_,?_,?_,⟨j+1,by omega,by omega,rfl,rfl,rfl⟩⟩
  ·omega
  ·refine Wk.sub ?_ ?_<;>simp only [go_sem]
   exact (ypd nx x j).symm
 ·obtain rfl:j=k:=by omega
  have hne:=hk.back
  repeat' (first|omega|(try apply yaa);simp only [go_sem]|apply yab<;>(intro h_;(try simp only [h_]);revert h_)|apply And.intro|with_reducible intro h_|trivial)
  exact List.take_of_length_le (by omega)
end Go.Proofs.YtfgbnalnbdhimaaGreatDoor
set_option linter.unusedSimpArgs false
set_option linter.unusedVariables false
namespace Go.Proofs.YtfgbnalnbdhimaaGreatDoor
open Go Go.RowKit
set_option maxRecDepth 100000
set_option maxHeartbeats 4000000
theorem yrv (h:Int) (h0:0<=h) (h1:h<=100000):Fn Tryz.prog 98 [I h] (I (ya7 h 2)):=by
 refine Fn.intro [.tmp 2] Tryz.func98 rfl rfl (by decide) (by simp [Tryz.ntmps98]) ?_;rw [Tryz.ntmps98]
 repeat' (first|omega|(try apply yaa);simp only [go_sem]|apply yab<;>(intro h_;(try simp only [h_]);revert h_)|apply And.intro|with_reducible intro h_|trivial)
 refine ⟨yae.fn rfl (ynh h 2 h0 h1) ?_⟩
 repeat' (first|omega|(try apply yaa);simp only [go_sem]|apply yab<;>(intro h_;(try simp only [h_]);revert h_)|apply And.intro|with_reducible intro h_|trivial)
end Go.Proofs.YtfgbnalnbdhimaaGreatDoor
set_option linter.unusedSimpArgs false
set_option linter.unusedVariables false
namespace Go.Proofs.YtfgbnalnbdhimaaGreatDoor
open Go Go.RowKit
set_option maxRecDepth 100000
set_option maxHeartbeats 4000000
theorem yoi (s m:List Int) (L h:Int) (h0:0<=h) (h1:h<4*s.length) (hs:s.length<=1000):Fn Tryz.prog 95 [I h, .rp (dgC s m L) 0] (.bool (outB s h)):=by
 refine Fn.intro [.tmp 3] Tryz.func95 rfl rfl (by decide) (by simp [Tryz.ntmps95]) ?_;rw [Tryz.ntmps95]
 repeat' (first|omega|(try apply yaa);simp only [go_sem]|apply yab<;>(intro h_;(try simp only [h_]);revert h_)|apply And.intro|with_reducible intro h_|trivial)
 refine ⟨yae.fn rfl (ygw s m L h h0 h1 hs) ?_⟩
 repeat' (first|omega|(try apply yaa);simp only [go_sem]|apply yab<;>(intro h_;(try simp only [h_]);revert h_)|apply And.intro|with_reducible intro h_|trivial)
theorem yni (s m:List Int) (L h:Int) (h0:0<=h) (h1:h<m.length) (g0:0<=m.getD h.toNat 0) (g1:m.getD h.toNat 0<=100000):Fn Tryz.prog 97 [I h, .rp (dgC s m L) 0] (I (ya7 (m.getD h.toNat 0) 2)):=by
 refine Fn.intro [.tmp 3] Tryz.func97 rfl rfl (by decide) (by simp [Tryz.ntmps97]) ?_;rw [Tryz.ntmps97]
 repeat' (first|omega|(try apply yaa);simp only [go_sem]|apply yab<;>(intro h_;(try simp only [h_]);revert h_)|apply And.intro|with_reducible intro h_|trivial)
 refine ⟨yae.fn rfl (yrv _ g0 g1) ?_⟩
 repeat' (first|omega|(try apply yaa);simp only [go_sem]|apply yab<;>(intro h_;(try simp only [h_]);revert h_)|apply And.intro|with_reducible intro h_|trivial)
theorem yyq (N:Nat) (w g:Nat) (c:Cs) (want:Int->Bool) (orb:Int->List Int) (hN:N<=10000) (hw: ∀h:Nat,h<N->Fn Tryz.prog w [I h, .rp c 0] (.bool (want h)))
  (ho: ∀h:Nat,h<N->want h=true->(orb h).length<=N/\(∀x∈orb h,0<=x/\x<N)/\Fn Tryz.prog 113 [I h, .fn g [.rp c 0]] (roI (orb h))):
  Fn Tryz.prog 96 [I N, .fn w [.rp c 0], .fn g [.rp c 0]] (roLL (cysN N want orb N).1):=by
 refine Fn.introL [.tmp 6] Tryz.func96 rfl rfl (by decide) (by simp [Tryz.ntmps96]) ?_;rw [Tryz.ntmps96]
 repeat' (first|omega|(try apply yaa);simp only [go_sem]|apply yab<;>(intro h_;(try simp only [h_]);revert h_)|apply And.intro|with_reducible intro h_|trivial)
 refine yai.intro (fun n fr H=> ∃h:Nat,h<=N/\n=N-h/\(((cysN N want orb h).1=[]/\fr=[(16,I h),(15,I N),(8, .sl 1 0 0 N),(7, .nils),(1, .fn w [.rp c 0]),(2, .fn g [.rp c 0])]/\H=[(0, .cells 4 (.bools (cysN N want orb h).2))])\/
  (fr=[(16,I h),(15,I N),(8, .sl 1 0 0 N),(7, .sl 1 2 0 (cysN N want orb h).1.length),(1, .fn w [.rp c 0]),(2, .fn g [.rp c 0])]/\H=[(2, .cells 43 (.lst ((cysN N want orb h).1.map roF))),(0, .cells 4 (.bools (cysN N want orb h).2))]))) ?_ ?_
 ·refine ⟨_,_,_,?_,0,by omega,rfl, .inl ⟨rfl,rfl,rfl⟩⟩
  refine Wk.sub ?_ ?_<;>simp only [go_sem]
  rfl
 rintro n fr H ⟨h,hh,rfl,hcase⟩
 obtain ⟨e1,e2⟩:=ykm N want orb h
 rcases hcase with ⟨hnil,rfl,rfl⟩|⟨rfl,rfl⟩
 ·by_cases hlt:h<N
  ·have hwf:=hw h hlt
   repeat' (first|omega|(try apply yaa);simp only [go_sem]|apply yab<;>(intro h_;(try simp only [h_]);revert h_)|apply And.intro|with_reducible intro h_|trivial)
   ·refine ⟨yae.fn rfl hwf ?_⟩
    repeat' (first|omega|(try apply yaa);simp only [go_sem]|apply yab<;>(intro h_;(try simp only [h_]);revert h_)|apply And.intro|with_reducible intro h_|trivial)
    ·have hwt:want h=false:=by assumption
     have eS:cysN N want orb (h+1)=cysN N want orb h:=by simp only [cysN,cys1];rw [if_pos (by rw [hwt];simp)]
     refine ⟨_,_,_,?_,?_,⟨h+1,by omega,rfl, .inl ⟨by rw [eS];exact hnil,rfl,rfl⟩⟩⟩
     ·omega
     ·refine Wk.sub ?_ ?_<;>(simp only [go_sem];try rw [eS];try simp only [yea,and_self])
    ·have hwt:want h=true:=by assumption
     have hsf:(cysN N want orb h).2.getD h false=false:=by assumption
     have eS:cysN N want orb (h+1)=((cysN N want orb h).1++[orb h],ybt (cysN N want orb h).2 (orb h)):=by simp only [cysN,cys1];rw [if_neg (by rw [hwt,hsf];simp)]
     obtain ⟨o1,o2,o3⟩:=ho h hlt hwt
     refine ⟨yae.fn rfl o3 ?_⟩
     repeat' (first|omega|(try apply yaa);simp only [go_sem]|apply yab<;>(intro h_;(try simp only [h_]);revert h_)|apply And.intro|with_reducible intro h_|trivial)
     generalize (cysN N want orb h).2=seen0 at*
     refine yai.intro (fun n fr H=> ∃k:Nat,k<=(orb h).length/\n=(orb h).length-k/\fr=[(34,I k),(33,I (orb h).length),(32,roI (orb h)),(10,roI (orb h)),(16,I h),(15,I N),(8, .sl 1 0 0 N),(7, .nils),(1, .fn w [.rp c 0]),(2, .fn g [.rp c 0])]/\
      H=[(0, .cells 4 (.bools (ybt seen0 ((orb h).take k))))]) ?_ ?_
     ·refine ⟨_,_,_,?_,0,by omega,rfl,rfl,rfl⟩
      refine Wk.sub ?_ ?_<;>simp only [go_sem]
      all_goals simp [ybt]
     rintro n fr H ⟨k,hk,rfl,rfl,rfl⟩
     have ml:=yez ((orb h).take k) seen0
     by_cases hkl:k<(orb h).length
     ·have hr:=o2 ((orb h).getD k 0) (by simp [hkl])
      repeat' (first|omega|(try apply yaa);simp only [go_sem]|apply yab<;>(intro h_;(try simp only [h_]);revert h_)|apply And.intro|with_reducible intro h_|trivial)
      refine ⟨_,_,_,?_,?_,⟨k+1,by omega,rfl,rfl,rfl⟩⟩
      ·omega
      ·refine Wk.sub ?_ ?_<;>simp only [go_sem]
       rw [List.take_succ_eq_append_getElem hkl,yfz]
       simp [ybt,hkl]
     ·obtain rfl:k=(orb h).length:=by omega
      rw [List.take_of_length_le (Nat.le_refl _)]
      repeat' (first|omega|(try apply yaa);simp only [go_sem]|apply yab<;>(intro h_;(try simp only [h_]);revert h_)|apply And.intro|with_reducible intro h_|trivial)
      refine ⟨_,_,_,?_,?_,⟨h+1,by omega,rfl, .inr ⟨rfl,rfl⟩⟩⟩
      ·omega
      ·refine Wk.sub ?_ ?_<;>(simp only [go_sem];rw [eS];simp only [go_sem])
       all_goals simp_all [roF]
   ·have hst:(cysN N want orb h).2.getD h false=true:=by assumption
    have eS:cysN N want orb (h+1)=cysN N want orb h:=by simp only [cysN,cys1];rw [if_pos (by rw [hst];simp)]
    refine ⟨_,_,_,?_,?_,⟨h+1,by omega,rfl, .inl ⟨by rw [eS];exact hnil,rfl,rfl⟩⟩⟩
    ·omega
    ·refine Wk.sub ?_ ?_<;>(simp only [go_sem];try rw [eS];try simp only [yea,and_self])
  ·obtain rfl:h=N:=by omega
   repeat' (first|omega|(try apply yaa);simp only [go_sem]|apply yab<;>(intro h_;(try simp only [h_]);revert h_)|apply And.intro|with_reducible intro h_|trivial)
   all_goals first|(rw [hnil];exact LeA.nils (by omega) rfl)|(exact yn3 _ _ _ _ ‹_›)|exact LeA.of (by rw [List.take_of_length_le (by simp)])
 ·by_cases hlt:h<N
  ·have hwf:=hw h hlt
   repeat' (first|omega|(try apply yaa);simp only [go_sem]|apply yab<;>(intro h_;(try simp only [h_]);revert h_)|apply And.intro|with_reducible intro h_|trivial)
   ·refine ⟨yae.fn rfl hwf ?_⟩
    repeat' (first|omega|(try apply yaa);simp only [go_sem]|apply yab<;>(intro h_;(try simp only [h_]);revert h_)|apply And.intro|with_reducible intro h_|trivial)
    ·have hwt:want h=false:=by assumption
     have eS:cysN N want orb (h+1)=cysN N want orb h:=by simp only [cysN,cys1];rw [if_pos (by rw [hwt];simp)]
     refine ⟨_,_,_,?_,?_,⟨h+1,by omega,rfl, .inr ⟨rfl,rfl⟩⟩⟩
     ·omega
     ·refine Wk.sub ?_ ?_<;>(simp only [go_sem];try rw [eS];try simp only [yea,and_self])
    ·have hwt:want h=true:=by assumption
     have hsf:(cysN N want orb h).2.getD h false=false:=by assumption
     have eS:cysN N want orb (h+1)=((cysN N want orb h).1++[orb h],ybt (cysN N want orb h).2 (orb h)):=by simp only [cysN,cys1];rw [if_neg (by rw [hwt,hsf];simp)]
     obtain ⟨o1,o2,o3⟩:=ho h hlt hwt
     refine ⟨yae.fn rfl o3 ?_⟩
     repeat' (first|omega|(try apply yaa);simp only [go_sem]|apply yab<;>(intro h_;(try simp only [h_]);revert h_)|apply And.intro|with_reducible intro h_|trivial)
     generalize (cysN N want orb h).2=seen0 at*
     refine yai.intro (fun n fr H=> ∃k:Nat,k<=(orb h).length/\n=(orb h).length-k/\fr=[(34,I k),(33,I (orb h).length),(32,roI (orb h)),(10,roI (orb h)),(16,I h),(15,I N),(8, .sl 1 0 0 N),(7, .sl 1 2 0 (cysN N want orb h).1.length),(1, .fn w [.rp c 0]),(2, .fn g [.rp c 0])]/\
      H=[(2, .cells 43 (.lst ((cysN N want orb h).1.map roF))),(0, .cells 4 (.bools (ybt seen0 ((orb h).take k))))]) ?_ ?_
     ·refine ⟨_,_,_,?_,0,by omega,rfl,rfl,rfl⟩
      refine Wk.sub ?_ ?_<;>simp only [go_sem]
      all_goals simp [ybt]
     rintro n fr H ⟨k,hk,rfl,rfl,rfl⟩
     have ml:=yez ((orb h).take k) seen0
     by_cases hkl:k<(orb h).length
     ·have hr:=o2 ((orb h).getD k 0) (by simp [hkl])
      repeat' (first|omega|(try apply yaa);simp only [go_sem]|apply yab<;>(intro h_;(try simp only [h_]);revert h_)|apply And.intro|with_reducible intro h_|trivial)
      refine ⟨_,_,_,?_,?_,⟨k+1,by omega,rfl,rfl,rfl⟩⟩
      ·omega
      ·refine Wk.sub ?_ ?_<;>simp only [go_sem]
       rw [List.take_succ_eq_append_getElem hkl,yfz]
       simp [ybt,hkl]
     ·obtain rfl:k=(orb h).length:=by omega
      rw [List.take_of_length_le (Nat.le_refl _)]
      repeat' (first|omega|(try apply yaa);simp only [go_sem]|apply yab<;>(intro h_;(try simp only [h_]);revert h_)|apply And.intro|with_reducible intro h_|trivial)
      refine ⟨_,_,_,?_,?_,⟨h+1,by omega,rfl, .inr ⟨rfl,rfl⟩⟩⟩
      ·omega
      ·refine Wk.sub ?_ ?_<;>(simp only [go_sem];rw [eS];simp only [go_sem])
       all_goals simp_all [roF]
   ·have hst:(cysN N want orb h).2.getD h false=true:=by assumption
    have eS:cysN N want orb (h+1)=cysN N want orb h:=by simp only [cysN,cys1];rw [if_pos (by rw [hst];simp)]
    refine ⟨_,_,_,?_,?_,⟨h+1,by omega,rfl, .inr ⟨rfl,rfl⟩⟩⟩
    ·omega
    ·refine Wk.sub ?_ ?_<;>(simp only [go_sem];try rw [eS];try simp only [yea,and_self])
  ·obtain rfl:h=N:=by omega
   repeat' (first|omega|(try apply yaa);simp only [go_sem]|apply yab<;>(intro h_;(try simp only [h_]);revert h_)|apply And.intro|with_reducible intro h_|trivial)
   all_goals first|(rw [hnil];exact LeA.nils (by omega) rfl)|(exact yn3 _ _ _ _ ‹_›)|exact LeA.of (by rw [List.take_of_length_le (by simp)])
end Go.Proofs.YtfgbnalnbdhimaaGreatDoor
