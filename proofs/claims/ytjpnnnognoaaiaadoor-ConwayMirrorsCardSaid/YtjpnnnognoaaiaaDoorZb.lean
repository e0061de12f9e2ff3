/- Arguments: rows of integers. -/
import Derived.Test.YtjpnnnognoaaiaaDoorZa
import Derived.Test.YtjpnnnognoaaiaaDoorPl
import Derived.Test.YtjpnnnognoaaiaaDoorTy
set_option linter.unusedSimpArgs false
set_option linter.unusedVariables false
namespace Go.Proofs.YtjpnnnognoaaiaaDoor
open Go Go.Joins Go.ChangeShapes Go.WideShapes Go.ChangeAt Go.WideMaps Go.WideElems Go.RowKit
set_option maxRecDepth 100000
theorem y6x {H:Type} {enc:TypeId×Value->H} {w:World} {r:Reach} {b0:Nat} {v:Value} {d:DataW H} {p:List MemPlace} (hv:Value.okWide Tryd.prog w r b0 22 v) (h:DataW.Trod enc Tryd.prog w 0 (fun _=>true) true 22 v d p):
  ∃l:List Int,VR w (fun _=>False) ρ0 (fun _=>False) v (roI l):=by
 obtain ⟨fuel,hf⟩:=h
 rw [yva (fun fs=>by rw [Tryd.underlying22];simp) (fun n e=>by rw [Tryd.underlying22];simp) hv] at hf
 exact ynu hf
end Go.Proofs.YtjpnnnognoaaiaaDoor
set_option linter.unusedSimpArgs false
set_option linter.unusedVariables false
namespace Go.Proofs.YtjpnnnognoaaiaaDoor
open Go Go.RowKit
set_option maxRecDepth 100000
theorem ynv (h b:Int) (h0:0<=h) (h1:h<=100000):Fn Tryd.prog 52 [I h,I b] (I (yao h b)):=y4t h b h0 h1
theorem yqo (s m:List Int) (L:Int) (hs:s.length<=1000) (hm:yb1 m s.length):Fn Tryd.prog 42 [dgA s m L] (.bool (sphM m s.length)):=by
 obtain ⟨p1,p2,p3,p4⟩:=yjq hm
 have hml:=hm.1
 refine Fn.intro [.tmp 2] Tryd.func42 rfl rfl (by decide) (by simp [Tryd.ntmps42]) ?_;rw [Tryd.ntmps42]
 repeat' (first|omega|(try apply yaa);simp only [go_sem,sevalprocAttr]|apply yab<;>(intro h_;(try simp only [h_]);revert h_)|apply And.intro|with_reducible intro h_|trivial|simp only [go_sem,la2];omega)
 refine ⟨yae.fn rfl (y1g s m L hs hm) ?_⟩
 repeat' (first|omega|(try apply yaa);simp only [go_sem,sevalprocAttr]|apply yab<;>(intro h_;(try simp only [h_]);revert h_)|apply And.intro|with_reducible intro h_|trivial|simp only [go_sem,la2];omega)
 generalize hpt:(yaz m s.length).1=part at*
 generalize hnp:(yaz m s.length).2=np at*
 refine ya0.intro (fun n fr H=> ∃k:Nat,k<=part.length/\n=part.length-k/\fr=[(22,I k),(21,I part.length),(20,roI part),(5, .sl 1 1 0 np.toNat),(3,roI part),(1, .ptr 0 0)]/\H=[(1, .cells 3 (.ints (decs part np.toNat k))),(0, .cells 24 (.lst [roI s,roI m,I L]))]) ?_ ?_
 ·refine ⟨_,_,_,?_,0,by omega,rfl,rfl,rfl⟩
  refine Wk.sub ?_ ?_<;>simp only [go_sem,sevalprocAttr]
  simp [decs]
 rintro n fr H ⟨k,hk,rfl,rfl,rfl⟩
 obtain ⟨d1,d2⟩:=ykk part np.toNat k
 by_cases hkl:k<part.length
 ·have q4:=p4 k (by omega)
  have d3:=d2 (part.getD k 0).toNat
  repeat' (first|omega|(try apply yaa);simp only [go_sem,sevalprocAttr]|apply yab<;>(intro h_;(try simp only [h_]);revert h_)|apply And.intro|with_reducible intro h_|trivial|simp only [go_sem,la2];omega)
  refine ⟨_,_,_,?_,?_,⟨k+1,by omega,rfl,rfl,rfl⟩⟩
  ·omega
  ·refine Wk.sub ?_ ?_<;>simp only [go_sem,sevalprocAttr]
   rfl
 obtain rfl:k=part.length:=by omega
 repeat' (first|omega|(try apply yaa);simp only [go_sem,sevalprocAttr]|apply yab<;>(intro h_;(try simp only [h_]);revert h_)|apply And.intro|with_reducible intro h_|trivial|simp only [go_sem,la2];omega)
 refine ya0.intro (fun n fr H=> ∃h:Nat,h<=m.length/\n=m.length-h/\fr=[(40,I h),(39,I m.length),(8, .sl 1 2 0 m.length),(5, .sl 1 1 0 np.toNat),(3,roI part),(1, .ptr 0 0)]/\H=[(2, .cells 4 (.bools (sphN m part np.toNat h).2)),(1, .cells 3 (.ints (sphN m part np.toNat h).1)),(0, .cells 24 (.lst [roI s,roI m,I L]))]) ?_ ?_
 ·refine ⟨_,_,_,?_,0,by omega,rfl,rfl,rfl⟩
  refine Wk.sub ?_ ?_<;>simp only [go_sem,sevalprocAttr]
  all_goals simp [sphN]
 rintro n fr H ⟨h,hh,rfl,rfl,rfl⟩
 obtain ⟨e1,e2,e3⟩:=ygf m part np.toNat h
 by_cases hhl:h<m.length
 ·have q4:=p4 (h/4) (by omega)
  have e4:=e3 (part.getD (h/4) 0).toNat
  have e5:(h:Int).tdiv 4=(h/4:Nat):=by rw [yda (by omega)];omega
  have e6:((h:Int).toNat)=h:=by omega
  repeat' (first|omega|(try apply yaa);simp only [go_sem,sevalprocAttr,e5]|apply yab<;>(intro h_;(try simp only [h_]);revert h_)|apply And.intro|with_reducible intro h_|trivial|simp only [go_sem,la2];omega)
  ·have eS:sphN m part np.toNat (h+1)=sphN m part np.toNat h:=by
    simp only [sphN,sph1];rw [if_pos (by assumption)]
   refine ⟨_,_,_,?_,?_,⟨h+1,by omega,rfl,rfl,rfl⟩⟩
   ·omega
   ·refine Wk.sub ?_ ?_<;>(rw [eS];simp only [go_sem,sevalprocAttr])
  ·have hf:(sphN m part np.toNat h).2.getD h false=false:=by assumption
   have eS:sphN m part np.toNat (h+1)=((sphN m part np.toNat h).1.set (part.getD (h/4) 0).toNat ((sphN m part np.toNat h).1.getD (part.getD (h/4) 0).toNat 0+1),mark m (m.length+1) (sphN m part np.toNat h).2 h):=by
    simp only [sphN,sph1];rw [if_neg (nbt hf)]
   have hu:=y6t (sphN m part np.toNat h).2
   generalize (sphN m part np.toNat h).2=seen0 at*
   generalize (sphN m part np.toNat h).1.set (part.getD (h/4) 0).toNat ((sphN m part np.toNat h).1.getD (part.getD (h/4) 0).toNat 0+1)=exc at*
   refine ya0.intro (fun f fr H=> ∃(seen:List Bool) (g:Int),unm seen<f/\seen.length=m.length/\0<=g/\g<4*s.length/\mark m f seen g=mark m (m.length+1) seen0 h/\
    fr=[(10,I g),(40,I h),(39,I m.length),(8, .sl 1 2 0 m.length),(5, .sl 1 1 0 np.toNat),(3,roI part),(1, .ptr 0 0)]/\H=[(2, .cells 4 (.bools seen)),(1, .cells 3 (.ints exc)),(0, .cells 24 (.lst [roI s,roI m,I L]))]) ?_ ?_
   ·refine ⟨m.length+1,_,_,?_,seen0,h,by omega,e2,by omega,by omega,rfl,rfl,rfl⟩
    refine Wk.sub ?_ ?_<;>simp only [go_sem,sevalprocAttr]
   rintro f fr H ⟨seen,g,hf1,hf2,hg0,hg1,hmk,rfl,rfl⟩
   obtain ⟨f',rfl⟩: ∃f',f=f'+1:=⟨f-1,by omega⟩
   have hmr:=hm.2 g.toNat (by omega)
   repeat' (first|omega|(try apply yaa);simp only [go_sem,sevalprocAttr]|apply yab<;>(intro h_;(try simp only [h_]);revert h_)|apply And.intro|with_reducible intro h_|trivial|simp only [go_sem,la2];omega)
   ·refine ⟨yae.fn rfl (ynv _ _ hmr.1 (by omega)) ?_⟩
    repeat' (first|omega|(try apply yaa);simp only [go_sem,sevalprocAttr]|apply yab<;>(intro h_;(try simp only [h_]);revert h_)|apply And.intro|with_reducible intro h_|trivial|simp only [go_sem,la2];omega)
    have hsg:seen.getD g.toNat false=false:=by assumption
    have hus:=yta (l:=seen) (i:=g.toNat) (by omega) hsg
    have htr:=yhm (b:= -1) hmr.1 hmr.2
    refine ⟨f',_,_,?_,?_,⟨seen.set g.toNat true,yao (m.getD g.toNat 0) (-1),by omega,by simp [hf2],htr.1,htr.2,?_,rfl,rfl⟩⟩
    ·omega
    ·refine Wk.sub ?_ ?_<;>simp only [go_sem,sevalprocAttr]
    ·rw [←hmk];simp only [mark];rw [if_neg (nbt hsg)]
   ·have hsg:seen.getD g.toNat false=true:=by assumption
    have hmk2:seen=mark m (m.length+1) seen0 h:=by rw [←hmk];simp only [mark];rw [if_pos hsg]
    refine ⟨_,_,_,?_,?_,⟨h+1,by omega,rfl,rfl,rfl⟩⟩
    ·omega
    ·refine Wk.sub ?_ ?_<;>(rw [eS];simp only [go_sem,sevalprocAttr])
     exact hmk2
 obtain rfl:h=m.length:=by omega
 repeat' (first|omega|(try apply yaa);simp only [go_sem,sevalprocAttr]|apply yab<;>(intro h_;(try simp only [h_]);revert h_)|apply And.intro|with_reducible intro h_|trivial|simp only [go_sem,la2];omega)
 refine ya0.intro (fun n fr H=> ∃k:Nat,k<=np.toNat/\n=np.toNat-k/\(∀i,i<k->(sphN m part np.toNat m.length).1.getD i 0=2)/\fr=[(75,I k),(74,I np.toNat),(73, .sl 1 1 0 np.toNat)]/\H=[(1, .cells 3 (.ints (sphN m part np.toNat m.length).1))]) ?_ ?_
 ·refine ⟨_,_,_,?_,0,by omega,rfl,by omega,rfl,rfl⟩
  refine Wk.sub ?_ ?_<;>simp only [go_sem,sevalprocAttr]
 rintro n fr H ⟨k,hk,rfl,hall,rfl,rfl⟩
 repeat' (first|omega|(try apply yaa);simp only [go_sem,sevalprocAttr]|apply yab<;>(intro h_;(try simp only [h_]);revert h_)|apply And.intro|with_reducible intro h_|trivial|simp only [go_sem,la2];omega)
 ·unfold sphM
  rw [hpt,hnp]
  exact (yu6 (k:=k) (by rw [(ygf m part np.toNat m.length).1];omega) (by assumption)).symm
 ·refine ⟨_,_,_,?_,?_,⟨k+1,by omega,rfl,fun i hi=>?_,rfl,rfl⟩⟩
  ·omega
  ·refine Wk.sub ?_ ?_<;>simp only [go_sem,sevalprocAttr]
  ·rcases Nat.lt_or_ge i k with g|g
   ·exact hall i g
   ·rw [show i=k by omega];assumption
 ·unfold sphM
  rw [hpt,hnp]
  exact (yxg (fun i hi=>hall i (by rw [(ygf m part np.toNat m.length).1] at hi;omega))).symm
end Go.Proofs.YtjpnnnognoaaiaaDoor
set_option linter.unusedSimpArgs false
set_option linter.unusedVariables false
namespace Go.Proofs.YtjpnnnognoaaiaaDoor
open Go Go.RowKit
set_option maxRecDepth 100000
set_option maxHeartbeats 4000000
def yxw:Tr:= .node [(0, .node [(1, .node [(2, .node [(3,trD [4,5,6]),(4,trD [3,5,6])]),(3, .node [(2,trD [4,5,6]),(4,trD [2,5,6])]),(4, .node [(2,trD [3,5,6]),(3,trD [2,5,6])])]),(3, .node [(1, .node [(2,trD [4,5,6]),(4,trD [2,5,6])]),(4,trD [1,2,5,6])]),(4, .node [(1, .node [(2,trD [3,5,6]),(3,trD [2,5,6])]),(3,trD [1,2,5,6])])]),(1, .node [(0, .node [(2, .node [(3,trD [4,5,6]),(4,trD [3,5,6])]),(3, .node [(2,trD [4,5,6]),(4,trD [2,5,6])]),(4, .node [(2,trD [3,5,6]),(3,trD [2,5,6])])]),(3, .node [(0, .node [(2,trD [4,5,6]),(4,trD [2,5,6])]),(4,trD [0,2,5,6])]),(4, .node [(0, .node [(2,trD [3,5,6]),(3,trD [2,5,6])]),(3,trD [0,2,5,6])])]),(3, .node [(0, .node [(1, .node [(2,trD [4,5,6]),(4,trD [2,5,6])]),(4,trD [1,2,5,6])]),(1, .node [(0, .node [(2,trD [4,5,6]),(4,trD [2,5,6])]),(4,trD [0,2,5,6])]),(4, .node [(0,trD [1,2,5,6]),(1,trD [0,2,5,6])])]),(4, .node [(0, .node [(1, .node [(2,trD [3,5,6]),(3,trD [2,5,6])]),(3,trD [1,2,5,6])]),(1, .node [(0, .node [(2,trD [3,5,6]),(3,trD [2,5,6])]),(3,trD [0,2,5,6])]),(3, .node [(0,trD [1,2,5,6]),(1,trD [0,2,5,6])])])]
theorem ybs (s m:List Int) (L:Int):Fn Tryd.prog 20 [dgA s m L] (.bool (yag s m L)):=by
 refine Fn.intro [.tmp 2] Tryd.func20 rfl rfl (by decide) (by simp [Tryd.ntmps20]) ?_;rw [Tryd.ntmps20]
 repeat' (first|omega|(try apply yaa);simp only [go_sem,sevalprocAttr]|apply yab<;>(intro h_;(try simp only [h_]);revert h_)|apply And.intro|with_reducible intro h_|trivial|simp only [go_sem,la2];omega)
 ·exact vbF (by omega)
 rotate_left
 ·exact vbF (by omega)
 ·exact vbF (by omega)
 ·exact vbF (by omega)
 refine ya0.intro (fun n fr H=> ∃k:Nat,k<=s.length/\n=s.length-k/\ych s k/\fr=[(34,I k),(33,I s.length),(32,roI s),(3,I s.length),(1, .ptr 0 0)]/\H=[(0, .cells 24 (.lst [roI s,roI m,I L]))]) ?_ ?_
 ·refine ⟨_,_,_,?_,0,by omega,rfl,(fun i hi=>by omega),rfl,rfl⟩
  refine Wk.sub ?_ ?_<;>simp only [go_sem,sevalprocAttr]
 rintro n fr H ⟨k,hk,rfl,hso,rfl,rfl⟩
 repeat' (first|omega|(try apply yaa);simp only [go_sem,sevalprocAttr]|apply yab<;>(intro h_;(try simp only [h_]);revert h_)|apply And.intro|with_reducible intro h_|trivial|simp only [go_sem,la2];omega)
 ·exact vbF fun hv=>by have:=hv.2.2.2.2.1 k (by omega);omega
 ·refine ⟨_,_,_,?_,?_,⟨k+1,by omega,rfl,yjr hso (by omega),rfl,rfl⟩⟩
  ·omega
  ·refine Wk.sub ?_ ?_<;>simp only [go_sem,sevalprocAttr]
 ·refine ⟨_,_,_,?_,?_,⟨k+1,by omega,rfl,yjr hso (by omega),rfl,rfl⟩⟩
  ·omega
  ·refine Wk.sub ?_ ?_<;>simp only [go_sem,sevalprocAttr]
 obtain rfl:k=s.length:=by omega
 refine ya0.intro (fun n fr H=> ∃k:Nat,k<=m.length/\n=m.length-k/\yd6 s m k/\fr=[(48,I k),(47,I m.length),(46,roI m),(3,I s.length),(1, .ptr 0 0)]/\H=[(0, .cells 24 (.lst [roI s,roI m,I L]))]) ?_ ?_
 ·refine ⟨_,_,_,?_,0,by omega,rfl,(fun i hi=>by omega),rfl,rfl⟩
  refine Wk.sub ?_ ?_<;>simp only [go_sem,sevalprocAttr]
 rintro n fr H ⟨h,hh,rfl,hmo,rfl,rfl⟩
 repeat' (first|omega|(first|apply yaa|(refine yac.intro (id:=15) [[76,78,79],[75,78,79],[78,79],[75,76,77,79],[75,76,77,78],[],[]] [[],[0],[],[0,1,2],[0,1,2,3],[],[]] (by decide+kernel) mixed ?_)|(refine yac.introT (id:=15) (yxw) (by decide+kernel) mixed ?_)|skip);simp only [go_sem,sevalprocAttr,↓reduceIte,reduceCtorEq,yxw]|apply yab<;>(intro h_;(try simp only [h_]);revert h_)|apply And.intro|with_reducible intro h_|trivial|simp only [go_sem,la2];omega)
 ·exact vbF fun hv=>by have:=hv.2.2.2.2.2 h (by omega);omega
 ·have h4:m.getD h 0<4*s.length:=by assumption
  refine ⟨ya6.fn rfl (yhn s m L h (by omega) (by omega) (by omega)) ?_⟩
  repeat' (first|omega|(try apply yaa);simp only [go_sem,sevalprocAttr]|apply yab<;>(intro h_;(try simp only [h_]);revert h_)|apply And.intro|with_reducible intro h_|trivial|simp only [go_sem,la2];omega)
  refine ⟨ya6.fn rfl (yhn s m L (m.getD h 0) (by assumption) h4 (by omega)) ?_⟩
  repeat' (first|omega|(try apply yaa);simp only [go_sem,sevalprocAttr]|apply yab<;>(intro h_;(try simp only [h_]);revert h_)|apply And.intro|with_reducible intro h_|trivial|simp only [go_sem,la2];omega)
  ·exact vbF fun hv=>by have:=hv.2.2.2.2.2 h (by omega);simp_all
  ·refine ⟨_,_,_,?_,?_,⟨h+1,by omega,rfl,yqf hmo ⟨by assumption,h4,by assumption,by assumption,by assumption⟩,rfl,rfl⟩⟩
   ·omega
   ·refine Wk.sub ?_ ?_<;>simp only [go_sem,sevalprocAttr]
 ·exact vbF fun hv=>by have:=hv.2.2.2.2.2 h (by omega);omega
 ·exact vbF fun hv=>by have:=hv.2.2.2.2.2 h (by omega);omega
 ·exact vbF fun hv=>by have:=hv.2.2.2.2.2 h (by omega);omega
 ·have hm:m.length=4*s.length:=by omega
  obtain rfl:h=4*s.length:=by omega
  refine ⟨yae.fn rfl (yqo s m L (by omega) ⟨hm,fun i hi=>⟨(hmo i hi).1,(hmo i hi).2.1⟩⟩) ?_⟩
  repeat' (first|omega|(try apply yaa);simp only [go_sem,sevalprocAttr]|apply yab<;>(intro h_;(try simp only [h_]);revert h_)|apply And.intro|with_reducible intro h_|trivial|simp only [go_sem,la2];omega)
  exact vbT ⟨by omega,hm,by assumption,by assumption,hso,hmo⟩
abbrev dgC (s m:List Int) (L:Int):Cs:= .lst [roI s,roI m,I L]
attribute [go_sem] dgC
end Go.Proofs.YtjpnnnognoaaiaaDoor
set_option linter.unusedSimpArgs false
set_option linter.unusedVariables false
namespace Go.Proofs.YtjpnnnognoaaiaaDoor
open Go Go.RowKit
theorem y8m {x:AV} (h:p1 x=true):p2 x=true:=by cases x<;>first|rfl|cases h
theorem y8n {x:AV} (h:p1 x=true):p3 x=true:=by cases x<;>first|rfl|cases h
theorem y8o {x:AV} (H:Hp) (h:p1 x=true):s1 H x=true:=by cases x<;>first|rfl|cases h
theorem y8p {x:AV} (H:Hp) (h:p1 x=true):s2 H x=true:=by cases x<;>first|rfl|cases h
theorem y4u {x:AV} (H:Hp) (n:Nat) (h:p1 x=true):snap H (n+1) x=x:=by cases x<;>first|rfl|cases h
theorem y1j {x:AV} (H:Hp) (n:Nat) (h:p1 x=true):yau H (n+1) x:=by cases x<;>first|trivial|cases h
theorem y6y {x:AV} (H:Hp) (n:Nat) (h:p1 x=true):frzV H (n+1) x=x:=by cases x<;>first|rfl|cases h
theorem y4v {x:AV} (H:Hp) (n:Nat) (h:p1 x=true):frzP H (n+1) x:=by cases x<;>first|trivial|cases h
theorem y8q {x:AV} (id:Nat) (h:p1 x=true):n1 id x=true:=by cases x<;>first|rfl|cases h
section
variable {c:List AV} (h:c.all p1=true)
include h
theorem yby:c.all p2=true:=List.all_eq_true.2 fun x hx=>y8m (List.all_eq_true.1 h x hx)
theorem ybk:c.all p3=true:=List.all_eq_true.2 fun x hx=>y8n (List.all_eq_true.1 h x hx)
theorem ybz (H:Hp):c.all (s1 H)=true:=List.all_eq_true.2 fun x hx=>y8o H (List.all_eq_true.1 h x hx)
theorem ybg (H:Hp):c.all (s2 H)=true:=List.all_eq_true.2 fun x hx=>y8p H (List.all_eq_true.1 h x hx)
theorem yb0 (i:Nat):c.all (n1 i)=true:=List.all_eq_true.2 fun x hx=>y8q i (List.all_eq_true.1 h x hx)
theorem ya3 (H:Hp) (n:Nat):c.map (snap H (n+1))=c:=by
 conv=>rhs;rw [←List.map_id c]
 exact List.map_congr_left fun x hx=>y4u H n (List.all_eq_true.1 h x hx)
theorem yaw (H:Hp) (n:Nat):(∀x∈c,yau H (n+1) x)=True:=eq_true fun x hx=>y1j H n (List.all_eq_true.1 h x hx)
theorem ybb (H:Hp) (n:Nat):c.map (frzV H (n+1))=c:=by
 conv=>rhs;rw [←List.map_id c]
 exact List.map_congr_left fun x hx=>y6y H n (List.all_eq_true.1 h x hx)
theorem ya4 (H:Hp) (n:Nat):(∀x∈c,frzP H (n+1) x)=True:=eq_true fun x hx=>y4v H n (List.all_eq_true.1 h x hx)
end
end Go.Proofs.YtjpnnnognoaaiaaDoor
namespace Go.Proofs.YtjpnnnognoaaiaaDoor
open Go Go.RowKit
def swI (i j n:Nat):Nat:=if n=i then j else if n=j then i else n
def swV (i j:Nat):Nat->AV->AV
 |0,x=>if p1 x then x else .any
 |n+1,x=>match x with
  | .sl es id off len=> .sl es (swI i j id) off len
  | .ptr id off=> .ptr (swI i j id) off
  | .mp id=> .mp (swI i j id)
  | .agg xs=> .agg (xs.map (swV i j n))
  | .tup xs=> .tup (xs.map (swV i j n))
  | .fn f xs=> .fn f (xs.map (swV i j n))
  |x=>x
def swO (i j:Nat):AObj->AObj
 | .cells t (.lst l)=> .cells t (.lst (l.map (swV i j 4)))
 | .imap t l=> .imap t (l.map fun q=>(q.1,swV i j 4 q.2))
 | .gmap t ck l=> .gmap t ck (l.map fun q=>(q.1,q.2.1,swV i j 4 q.2.2))
 | .iter m s sn la=> .iter (swI i j m) s sn la
 |o=>o
def swH (i j:Nat):Hp->Hp
 |[]=>[]
 |(k,o)::r=>(swI i j k,swO i j o)::swH i j r
def swF (i j:Nat):Fr->Fr
 |[]=>[]
 |(t,x)::r=>(t,swV i j 4 x)::swF i j r
section
variable {B:Nat} {w0:ybt} {Mx:Nat->Prop} {N:Nat} {w:World} {ρ:Nat->Addr} {fr:Fr} {H:Hp} {a:Act}
end
attribute [go_sem] swI swV swO swH swF
end Go.Proofs.YtjpnnnognoaaiaaDoor
