/- Layer 1: spheres. -/
import Derived.Test.YtmdjdekgakidhaaDoorZa
set_option linter.unusedSimpArgs false
set_option linter.unusedVariables false
namespace Go.Proofs.YtmdjdekgakidhaaDoor
open Go Go.RowKit
set_option maxRecDepth 100000
theorem y2k (h b:Int) (h0:0<=h) (h1:h<=100000):Fn Tryd.prog 50 [I h,I b] (I (ydg h b)):=y2i h b h0 h1
theorem ypg (s m:List Int) (L:Int) (hs:s.length<=1000) (hm:yba m s.length):Fn Tryd.prog 38 [dgA s m L] (.bool (sphM m s.length)):=by
 obtain ⟨p1,p2,p3,p4⟩:=yvp hm
 have hml:=hm.1
 refine Fn.intro [.tmp 2] Tryd.func38 rfl rfl (by decide) (by simp [Tryd.ntmps38]) ?_;rw [Tryd.ntmps38]
 repeat' (first|omega|(try apply yaa);simp only [go_sem,sevalprocAttr]|apply yae<;>(intro h_;(try simp only [h_]);revert h_)|apply yad|apply yab|apply gspI|apply And.intro|with_reducible intro h_|trivial|simp only [go_sem,la2];omega)
 refine ⟨yaf.fn rfl (yyz s m L hs hm) ?_⟩
 repeat' (first|omega|(try apply yaa);simp only [go_sem,sevalprocAttr]|apply yae<;>(intro h_;(try simp only [h_]);revert h_)|apply yad|apply yab|apply gspI|apply And.intro|with_reducible intro h_|trivial|simp only [go_sem,la2];omega)
 generalize hpt:(ycn m s.length).1=part at*
 generalize hnp:(ycn m s.length).2=np at*
 refine yak.intro (fun n fr H=> ∃k:Nat,k<=part.length/\n=part.length-k/\fr=[(22,I k),(21,I part.length),(20,roI part),(5, .sl 1 1 0 np.toNat),(3,roI part),(1, .ptr 0 0)]/\H=[(1, .cells 3 (.ints (decs part np.toNat k))),(0, .cells 25 (.lst [roI s,roI m,I L]))]) ?_ ?_
 ·refine ⟨_,_,_,?_,0,by omega,rfl,rfl,rfl⟩
  refine Wk.sub ?_ ?_<;>simp only [go_sem,sevalprocAttr]
  simp [decs]
 rintro n fr H ⟨k,hk,rfl,rfl,rfl⟩
 obtain ⟨d1,d2⟩:=ymo part np.toNat k
 by_cases hkl:k<part.length
 ·have q4:=p4 k (by omega)
  have d3:=d2 (part.getD k 0).toNat
  repeat' (first|omega|(try apply yaa);simp only [go_sem,sevalprocAttr]|apply yae<;>(intro h_;(try simp only [h_]);revert h_)|apply yad|apply yab|apply gspI|apply And.intro|with_reducible intro h_|trivial|simp only [go_sem,la2];omega)
  refine ⟨_,_,_,?_,?_,⟨k+1,by omega,rfl,rfl,rfl⟩⟩
  ·omega
  ·refine Wk.sub ?_ ?_<;>simp only [go_sem,sevalprocAttr]
   rfl
 obtain rfl:k=part.length:=by omega
 repeat' (first|omega|(try apply yaa);simp only [go_sem,sevalprocAttr]|apply yae<;>(intro h_;(try simp only [h_]);revert h_)|apply yad|apply yab|apply gspI|apply And.intro|with_reducible intro h_|trivial|simp only [go_sem,la2];omega)
 refine yak.intro (fun n fr H=> ∃h:Nat,h<=m.length/\n=m.length-h/\fr=[(40,I h),(39,I m.length),(8, .sl 1 2 0 m.length),(5, .sl 1 1 0 np.toNat),(3,roI part),(1, .ptr 0 0)]/\H=[(2, .cells 4 (.bools (sphN m part np.toNat h).2)),(1, .cells 3 (.ints (sphN m part np.toNat h).1)),(0, .cells 25 (.lst [roI s,roI m,I L]))]) ?_ ?_
 ·refine ⟨_,_,_,?_,0,by omega,rfl,rfl,rfl⟩
  refine Wk.sub ?_ ?_<;>simp only [go_sem,sevalprocAttr]
  all_goals simp [sphN]
 rintro n fr H ⟨h,hh,rfl,rfl,rfl⟩
 obtain ⟨e1,e2,e3⟩:=yi6 m part np.toNat h
 by_cases hhl:h<m.length
 ·have q4:=p4 (h/4) (by omega)
  have e4:=e3 (part.getD (h/4) 0).toNat
  have e5:(h:Int).tdiv 4=(h/4:Nat):=by rw [yrx (by omega)];omega
  have e6:((h:Int).toNat)=h:=by omega
  repeat' (first|omega|(try apply yaa);simp only [go_sem,sevalprocAttr,e5]|apply yae<;>(intro h_;(try simp only [h_]);revert h_)|apply yad|apply yab|apply gspI|apply And.intro|with_reducible intro h_|trivial|simp only [go_sem,la2];omega)
  ·have eS:sphN m part np.toNat (h+1)=sphN m part np.toNat h:=by
    simp only [sphN,sph1];rw [if_pos (by assumption)]
   refine ⟨_,_,_,?_,?_,⟨h+1,by omega,rfl,rfl,rfl⟩⟩
   ·omega
   ·refine Wk.sub ?_ ?_<;>(rw [eS];simp only [go_sem,sevalprocAttr])
  ·have hf:(sphN m part np.toNat h).2.getD h false=false:=by assumption
   have eS:sphN m part np.toNat (h+1)=((sphN m part np.toNat h).1.set (part.getD (h/4) 0).toNat ((sphN m part np.toNat h).1.getD (part.getD (h/4) 0).toNat 0+1),mark m (m.length+1) (sphN m part np.toNat h).2 h):=by
    simp only [sphN,sph1];rw [if_neg (nbt hf)]
   have hu:=y4u (sphN m part np.toNat h).2
   generalize (sphN m part np.toNat h).2=seen0 at*
   generalize (sphN m part np.toNat h).1.set (part.getD (h/4) 0).toNat ((sphN m part np.toNat h).1.getD (part.getD (h/4) 0).toNat 0+1)=exc at*
   refine yak.intro (fun f fr H=> ∃(seen:List Bool) (g:Int),unm seen<f/\seen.length=m.length/\0<=g/\g<4*s.length/\mark m f seen g=mark m (m.length+1) seen0 h/\
    fr=[(10,I g),(40,I h),(39,I m.length),(8, .sl 1 2 0 m.length),(5, .sl 1 1 0 np.toNat),(3,roI part),(1, .ptr 0 0)]/\H=[(2, .cells 4 (.bools seen)),(1, .cells 3 (.ints exc)),(0, .cells 25 (.lst [roI s,roI m,I L]))]) ?_ ?_
   ·refine ⟨m.length+1,_,_,?_,seen0,h,by omega,e2,by omega,by omega,rfl,rfl,rfl⟩
    refine Wk.sub ?_ ?_<;>simp only [go_sem,sevalprocAttr]
   rintro f fr H ⟨seen,g,hf1,hf2,hg0,hg1,hmk,rfl,rfl⟩
   obtain ⟨f',rfl⟩: ∃f',f=f'+1:=⟨f-1,by omega⟩
   have hmr:=hm.2 g.toNat (by omega)
   repeat' (first|omega|(try apply yaa);simp only [go_sem,sevalprocAttr]|apply yae<;>(intro h_;(try simp only [h_]);revert h_)|apply yad|apply yab|apply gspI|apply And.intro|with_reducible intro h_|trivial|simp only [go_sem,la2];omega)
   ·refine ⟨yaf.fn rfl (y2k _ _ hmr.1 (by omega)) ?_⟩
    repeat' (first|omega|(try apply yaa);simp only [go_sem,sevalprocAttr]|apply yae<;>(intro h_;(try simp only [h_]);revert h_)|apply yad|apply yab|apply gspI|apply And.intro|with_reducible intro h_|trivial|simp only [go_sem,la2];omega)
    have hsg:seen.getD g.toNat false=false:=by assumption
    have hus:=y2g (l:=seen) (i:=g.toNat) (by omega) hsg
    have htr:=yre (b:= -1) hmr.1 hmr.2
    refine ⟨f',_,_,?_,?_,⟨seen.set g.toNat true,ydg (m.getD g.toNat 0) (-1),by omega,by simp [hf2],htr.1,htr.2,?_,rfl,rfl⟩⟩
    ·omega
    ·refine Wk.sub ?_ ?_<;>simp only [go_sem,sevalprocAttr]
    ·rw [←hmk];simp only [mark];rw [if_neg (nbt hsg)]
   ·have hsg:seen.getD g.toNat false=true:=by assumption
    have hmk2:seen=mark m (m.length+1) seen0 h:=by rw [←hmk];simp only [mark];rw [if_pos hsg]
    refine ⟨_,_,_,?_,?_,⟨h+1,by omega,rfl,rfl,rfl⟩⟩
    ·omega
    ·refine Wk.sub ?_ ?_<;>(rw [eS];simp only [go_sem,sevalprocAttr])
     exact hmk2
 obtain rfl:h=m.length:=by omega
 repeat' (first|omega|(try apply yaa);simp only [go_sem,sevalprocAttr]|apply yae<;>(intro h_;(try simp only [h_]);revert h_)|apply yad|apply yab|apply gspI|apply And.intro|with_reducible intro h_|trivial|simp only [go_sem,la2];omega)
 refine yak.intro (fun n fr H=> ∃k:Nat,k<=np.toNat/\n=np.toNat-k/\(∀i,i<k->(sphN m part np.toNat m.length).1.getD i 0=2)/\fr=[(75,I k),(74,I np.toNat),(73, .sl 1 1 0 np.toNat)]/\H=[(1, .cells 3 (.ints (sphN m part np.toNat m.length).1))]) ?_ ?_
 ·refine ⟨_,_,_,?_,0,by omega,rfl,by omega,rfl,rfl⟩
  refine Wk.sub ?_ ?_<;>simp only [go_sem,sevalprocAttr]
 rintro n fr H ⟨k,hk,rfl,hall,rfl,rfl⟩
 repeat' (first|omega|(try apply yaa);simp only [go_sem,sevalprocAttr]|apply yae<;>(intro h_;(try simp only [h_]);revert h_)|apply yad|apply yab|apply gspI|apply And.intro|with_reducible intro h_|trivial|simp only [go_sem,la2];omega)
 ·unfold sphM
  rw [hpt,hnp]
  exact (yt0 (k:=k) (by rw [(yi6 m part np.toNat m.length).1];omega) (by assumption)).symm
 ·refine ⟨_,_,_,?_,?_,⟨k+1,by omega,rfl,fun i hi=>?_,rfl,rfl⟩⟩
  ·omega
  ·refine Wk.sub ?_ ?_<;>simp only [go_sem,sevalprocAttr]
  ·rcases Nat.lt_or_ge i k with g|g
   ·exact hall i g
   ·rw [show i=k by omega];assumption
 ·unfold sphM
  rw [hpt,hnp]
  exact (yvq (fun i hi=>hall i (by rw [(yi6 m part np.toNat m.length).1] at hi;omega))).symm
end Go.Proofs.YtmdjdekgakidhaaDoor
set_option linter.unusedSimpArgs false
set_option linter.unusedVariables false
namespace Go.Proofs.YtmdjdekgakidhaaDoor
open Go Go.RowKit
set_option maxRecDepth 100000
set_option maxHeartbeats 4000000
def yvu:Tr:= .node [(0, .node [(1, .node [(2, .node [(3, .node [(4, .node [(5, .node [(6, .done)])])]),(4, .node [(3, .node [(5, .node [(6, .done)])])])]),(3, .node [(2, .node [(4, .node [(5, .node [(6, .done)])])]),(4, .node [(2, .node [(5, .node [(6, .done)])])])]),(4, .node [(2, .node [(3, .node [(5, .node [(6, .done)])])]),(3, .node [(2, .node [(5, .node [(6, .done)])])])])]),(3, .node [(1, .node [(2, .node [(4, .node [(5, .node [(6, .done)])])]),(4, .node [(2, .node [(5, .node [(6, .done)])])])]),(4, .node [(1, .node [(2, .node [(5, .node [(6, .done)])])])])]),(4, .node [(1, .node [(2, .node [(3, .node [(5, .node [(6, .done)])])]),(3, .node [(2, .node [(5, .node [(6, .done)])])])]),(3, .node [(1, .node [(2, .node [(5, .node [(6, .done)])])])])])]),(1, .node [(0, .node [(2, .node [(3, .node [(4, .node [(5, .node [(6, .done)])])]),(4, .node [(3, .node [(5, .node [(6, .done)])])])]),(3, .node [(2, .node [(4, .node [(5, .node [(6, .done)])])]),(4, .node [(2, .node [(5, .node [(6, .done)])])])]),(4, .node [(2, .node [(3, .node [(5, .node [(6, .done)])])]),(3, .node [(2, .node [(5, .node [(6, .done)])])])])]),(3, .node [(0, .node [(2, .node [(4, .node [(5, .node [(6, .done)])])]),(4, .node [(2, .node [(5, .node [(6, .done)])])])]),(4, .node [(0, .node [(2, .node [(5, .node [(6, .done)])])])])]),(4, .node [(0, .node [(2, .node [(3, .node [(5, .node [(6, .done)])])]),(3, .node [(2, .node [(5, .node [(6, .done)])])])]),(3, .node [(0, .node [(2, .node [(5, .node [(6, .done)])])])])])]),(3, .node [(0, .node [(1, .node [(2, .node [(4, .node [(5, .node [(6, .done)])])]),(4, .node [(2, .node [(5, .node [(6, .done)])])])]),(4, .node [(1, .node [(2, .node [(5, .node [(6, .done)])])])])]),(1, .node [(0, .node [(2, .node [(4, .node [(5, .node [(6, .done)])])]),(4, .node [(2, .node [(5, .node [(6, .done)])])])]),(4, .node [(0, .node [(2, .node [(5, .node [(6, .done)])])])])]),(4, .node [(0, .node [(1, .node [(2, .node [(5, .node [(6, .done)])])])]),(1, .node [(0, .node [(2, .node [(5, .node [(6, .done)])])])])])]),(4, .node [(0, .node [(1, .node [(2, .node [(3, .node [(5, .node [(6, .done)])])]),(3, .node [(2, .node [(5, .node [(6, .done)])])])]),(3, .node [(1, .node [(2, .node [(5, .node [(6, .done)])])])])]),(1, .node [(0, .node [(2, .node [(3, .node [(5, .node [(6, .done)])])]),(3, .node [(2, .node [(5, .node [(6, .done)])])])]),(3, .node [(0, .node [(2, .node [(5, .node [(6, .done)])])])])]),(3, .node [(0, .node [(1, .node [(2, .node [(5, .node [(6, .done)])])])]),(1, .node [(0, .node [(2, .node [(5, .node [(6, .done)])])])])])])]
theorem yph (s m:List Int) (L:Int):Fn Tryd.prog 17 [dgA s m L] (.bool (ybb s m L)):=by
 refine Fn.intro [.tmp 2] Tryd.func17 rfl rfl (by decide) (by simp [Tryd.ntmps17]) ?_;rw [Tryd.ntmps17]
 repeat' (first|omega|(try apply yaa);simp only [go_sem,sevalprocAttr]|apply yae<;>(intro h_;(try simp only [h_]);revert h_)|apply yad|apply yab|apply gspI|apply And.intro|with_reducible intro h_|trivial|simp only [go_sem,la2];omega)
 ·exact vbF (by omega)
 rotate_left
 ·exact vbF (by omega)
 ·exact vbF (by omega)
 ·exact vbF (by omega)
 refine yak.intro (fun n fr H=> ∃k:Nat,k<=s.length/\n=s.length-k/\yc7 s k/\fr=[(34,I k),(33,I s.length),(32,roI s),(3,I s.length),(1, .ptr 0 0)]/\H=[(0, .cells 25 (.lst [roI s,roI m,I L]))]) ?_ ?_
 ·refine ⟨_,_,_,?_,0,by omega,rfl,(fun i hi=>by omega),rfl,rfl⟩
  refine Wk.sub ?_ ?_<;>simp only [go_sem,sevalprocAttr]
 rintro n fr H ⟨k,hk,rfl,hso,rfl,rfl⟩
 repeat' (first|omega|(try apply yaa);simp only [go_sem,sevalprocAttr]|apply yae<;>(intro h_;(try simp only [h_]);revert h_)|apply yad|apply yab|apply gspI|apply And.intro|with_reducible intro h_|trivial|simp only [go_sem,la2];omega)
 ·exact vbF fun hv=>by have:=hv.2.2.2.2.1 k (by omega);omega
 ·refine ⟨_,_,_,?_,?_,⟨k+1,by omega,rfl,yim hso (by omega),rfl,rfl⟩⟩
  ·omega
  ·refine Wk.sub ?_ ?_<;>simp only [go_sem,sevalprocAttr]
 ·refine ⟨_,_,_,?_,?_,⟨k+1,by omega,rfl,yim hso (by omega),rfl,rfl⟩⟩
  ·omega
  ·refine Wk.sub ?_ ?_<;>simp only [go_sem,sevalprocAttr]
 obtain rfl:k=s.length:=by omega
 refine yak.intro (fun n fr H=> ∃k:Nat,k<=m.length/\n=m.length-k/\yc8 s m k/\fr=[(48,I k),(47,I m.length),(46,roI m),(3,I s.length),(1, .ptr 0 0)]/\H=[(0, .cells 25 (.lst [roI s,roI m,I L]))]) ?_ ?_
 ·refine ⟨_,_,_,?_,0,by omega,rfl,(fun i hi=>by omega),rfl,rfl⟩
  refine Wk.sub ?_ ?_<;>simp only [go_sem,sevalprocAttr]
 rintro n fr H ⟨h,hh,rfl,hmo,rfl,rfl⟩
 repeat' (first|omega|(first|apply yaa|(refine yac.intro (id:=15) [[76,78,79],[75,78,79],[78,79],[75,76,77,79],[75,76,77,78],[],[]] [[],[0],[],[0,1,2],[0,1,2,3],[],[]] (by decide+kernel) mixed ?_)|(refine yac.introT (id:=15) (yvu) (by decide+kernel) mixed ?_)|skip);simp only [go_sem,sevalprocAttr,↓reduceIte,reduceCtorEq,yvu]|apply yae<;>(intro h_;(try simp only [h_]);revert h_)|apply yad|apply yab|apply gspI|apply And.intro|with_reducible intro h_|trivial|simp only [go_sem,la2];omega)
 ·exact vbF fun hv=>by have:=hv.2.2.2.2.2 h (by omega);omega
 ·have h4:m.getD h 0<4*s.length:=by assumption
  refine ⟨ybh.fn rfl (ykb s m L h (by omega) (by omega) (by omega)) ?_⟩
  repeat' (first|omega|(try apply yaa);simp only [go_sem,sevalprocAttr]|apply yae<;>(intro h_;(try simp only [h_]);revert h_)|apply yad|apply yab|apply gspI|apply And.intro|with_reducible intro h_|trivial|simp only [go_sem,la2];omega)
  refine ⟨ybh.fn rfl (ykb s m L (m.getD h 0) (by assumption) h4 (by omega)) ?_⟩
  repeat' (first|omega|(try apply yaa);simp only [go_sem,sevalprocAttr]|apply yae<;>(intro h_;(try simp only [h_]);revert h_)|apply yad|apply yab|apply gspI|apply And.intro|with_reducible intro h_|trivial|simp only [go_sem,la2];omega)
  ·exact vbF fun hv=>by have:=hv.2.2.2.2.2 h (by omega);simp_all
  ·refine ⟨_,_,_,?_,?_,⟨h+1,by omega,rfl,ypc hmo ⟨by assumption,h4,by assumption,by assumption,by assumption⟩,rfl,rfl⟩⟩
   ·omega
   ·refine Wk.sub ?_ ?_<;>simp only [go_sem,sevalprocAttr]
 ·exact vbF fun hv=>by have:=hv.2.2.2.2.2 h (by omega);omega
 ·exact vbF fun hv=>by have:=hv.2.2.2.2.2 h (by omega);omega
 ·exact vbF fun hv=>by have:=hv.2.2.2.2.2 h (by omega);omega
 ·have hm:m.length=4*s.length:=by omega
  obtain rfl:h=4*s.length:=by omega
  refine ⟨yaf.fn rfl (ypg s m L (by omega) ⟨hm,fun i hi=>⟨(hmo i hi).1,(hmo i hi).2.1⟩⟩) ?_⟩
  repeat' (first|omega|(try apply yaa);simp only [go_sem,sevalprocAttr]|apply yae<;>(intro h_;(try simp only [h_]);revert h_)|apply yad|apply yab|apply gspI|apply And.intro|with_reducible intro h_|trivial|simp only [go_sem,la2];omega)
  exact vbT ⟨by omega,hm,by assumption,by assumption,hso,hmo⟩
abbrev dgC (s m:List Int) (L:Int):Cs:= .lst [roI s,roI m,I L]
attribute [go_sem] dgC
end Go.Proofs.YtmdjdekgakidhaaDoor
