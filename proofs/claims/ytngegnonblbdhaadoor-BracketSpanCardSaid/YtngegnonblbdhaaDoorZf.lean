/- Plain: a row of parents and the representatives that it stands for. -/
import Derived.Test.YtngegnonblbdhaaDoorPc
import Derived.Test.YtngegnonblbdhaaDoorZa
import Derived.Test.YtngegnonblbdhaaDoorPl
set_option linter.unusedSimpArgs false
set_option linter.unusedVariables false
namespace Go.Proofs.YtngegnonblbdhaaDoor
structure UF (l R:List Int) (N:Nat):Prop where
 rep:RepR R N
 len:l.length=N
 rng: ∀x,x<N->0<=l.getD x 0/\l.getD x 0<N
 same: ∀x,x<N->R.getD (l.getD x 0).toNat 0=R.getD x 0
 root: ∀x:Nat,x<N->(l.getD x 0=x↔R.getD x 0=x)
 rank: ∃rk:Nat->Nat,∀x:Nat,x<N->l.getD x 0≠x->rk (l.getD x 0).toNat<rk x
theorem ybf {l:List Int} {i:Nat} {v:Int} (h:i<l.length):(l.set i v).getD i 0=v:=by simp [h]
theorem ybo {l:List Int} {i j:Nat} {v:Int} (h:i≠j):(l.set i v).getD j 0=l.getD j 0:=by simp [List.getD_eq_getElem?_getD,List.getElem?_set_ne h]
section
variable {l R:List Int} {N:Nat}
theorem UF.rkR (h:UF l R N) {rk:Nat->Nat} (hr: ∀x:Nat,x<N->l.getD x 0≠x->rk (l.getD x 0).toNat<rk x): ∀(n x:Nat),rk x<=n->x<N->R.getD x 0≠x->rk (R.getD x 0).toNat<rk x
 |n,x,hn,hx,hne=>by
  have h1:=h.rng x hx
  have h2:=hr x hx (fun e=>hne ((h.root x hx).1 e))
  have h3:=h.same x hx
  by_cases e:R.getD (l.getD x 0).toNat 0=((l.getD x 0).toNat:Int)
  ·rw [←h3,e,Int.toNat_natCast];exact h2
  ·match n,hn with
   |0,hn=>omega
   |n+1,hn=>
    have:=UF.rkR h hr n (l.getD x 0).toNat (by omega) (by omega) e
    rw [h3] at this;omega
theorem UF.half (h:UF l R N) {x:Nat} (hx:x<N) (hne:l.getD x 0≠x):UF (l.set x (l.getD (l.getD x 0).toNat 0)) R N:=by
 have h1:=h.rng x hx
 have h2:=h.rng (l.getD x 0).toNat (by omega)
 obtain ⟨rk,hr⟩:=h.rank
 have r1:=hr x hx hne
 have r2:rk (l.getD (l.getD x 0).toNat 0).toNat<=rk (l.getD x 0).toNat:=by
  by_cases e:l.getD (l.getD x 0).toNat 0=((l.getD x 0).toNat:Int)
  ·rw [e,Int.toNat_natCast];exact Nat.le_refl _
  ·exact Nat.le_of_lt (hr _ (by omega) e)
 refine ⟨h.rep,by simp [h.len],fun y hy=>?_,fun y hy=>?_,fun y hy=>?_,rk,fun y hy hny=>?_⟩
 ·by_cases e:x=y
  ·subst e;rw [ybf (by rw [h.len];exact hx)];exact h2
  ·rw [ybo e];exact h.rng y hy
 ·by_cases e:x=y
  ·subst e;rw [ybf (by rw [h.len];exact hx),h.same _ (by omega),h.same _ hx]
  ·rw [ybo e];exact h.same y hy
 ·by_cases e:x=y
  ·subst e;rw [ybf (by rw [h.len];exact hx)]
   constructor
   ·intro e2;rw [e2] at r2;simp only [Int.toNat_natCast] at r2;omega
   ·intro e2;exact absurd ((h.root x hx).2 e2) hne
  ·rw [ybo e];exact h.root y hy
 ·by_cases e:x=y
  ·subst e;rw [ybf (by rw [h.len];exact hx)];omega
  ·rw [ybo e] at hny⊢;exact hr y hy hny
theorem UF.put (h:UF l R N) {x:Nat} (hx:x<N):UF (l.set x (R.getD x 0)) R N:=by
 obtain ⟨rk,hr⟩:=h.rank
 have h1:=h.rep.rng x hx
 refine ⟨h.rep,by simp [h.len],fun y hy=>?_,fun y hy=>?_,fun y hy=>?_,rk,fun y hy hny=>?_⟩
 ·by_cases e:x=y
  ·subst e;rw [ybf (by rw [h.len];exact hx)];exact h1
  ·rw [ybo e];exact h.rng y hy
 ·by_cases e:x=y
  ·subst e;rw [ybf (by rw [h.len];exact hx),h.rep.idem _ hx]
  ·rw [ybo e];exact h.same y hy
 ·by_cases e:x=y
  ·subst e;rw [ybf (by rw [h.len];exact hx)]
  ·rw [ybo e];exact h.root y hy
 ·by_cases e:x=y
  ·subst e;rw [ybf (by rw [h.len];exact hx)] at hny⊢;exact h.rkR hr (rk x) x (Nat.le_refl _) hx hny
  ·rw [ybo e] at hny⊢;exact hr y hy hny
theorem UF.join (h:UF l R N) {g k:Nat} (hg:g<N) (hk:k<N) (hne:R.getD g 0≠R.getD k 0):UF (l.set (R.getD g 0).toNat (R.getD k 0)) (yaj R g k) N:=by
 obtain ⟨rk,hr⟩:=h.rank
 have g1:=h.rep.rng g hg
 have k1:=h.rep.rng k hk
 have gi:=h.rep.idem g hg
 have ki:=h.rep.idem k hk
 have hl:=h.rep.len
 have hG:(R.getD g 0).toNat<l.length:=by rw [h.len];omega
 refine ⟨yeq h.rep hg hk,by simp [h.len],fun y hy=>?_,fun y hy=>?_,fun y hy=>?_,fun x=>if R.getD x 0=R.getD g 0 then rk x+rk (R.getD k 0).toNat+1 else rk x,fun y hy hny=>?_⟩
 ·by_cases e:(R.getD g 0).toNat=y
  ·subst e;rw [ybf hG];exact k1
  ·rw [ybo e];exact h.rng y hy
 ·by_cases e:(R.getD g 0).toNat=y
  ·subst e
   rw [ybf hG,yax hl (by omega),yax hl (by omega),gi,ki,if_pos rfl]
   split<;>rfl
  ·have:=h.rng y hy
   rw [ybo e,yax hl (by omega),yax hl hy,h.same y hy]
 ·by_cases e:(R.getD g 0).toNat=y
  ·subst e
   rw [ybf hG,yax hl (by omega),gi,if_pos rfl]
  ·rw [ybo e,yax hl hy,h.root y hy]
   split
   ·rename_i e2
    constructor
    ·intro e3;omega
    ·intro e3;exfalso
     have:R.getD y 0=R.getD k 0:=by
      have hyk:(R.getD k 0).toNat=y:=by omega
      rw [hyk] at ki;exact ki
     omega
   ·rfl
 ·by_cases e:(R.getD g 0).toNat=y
  ·subst e
   rw [ybf hG]
   simp only [gi,ki,if_true]
   rw [if_neg (fun e=>hne e.symm)]
   omega
  ·rw [ybo e] at hny⊢
   have:=hr y hy hny
   simp only [h.same y hy]
   split<;>omega
theorem UF.halfR (h:UF l R N) {rk:Nat->Nat} (hr: ∀x:Nat,x<N->l.getD x 0≠x->rk (l.getD x 0).toNat<rk x) {x:Nat} (hx:x<N) (hne:l.getD x 0≠x):
  (∀y:Nat,y<N->(l.set x (l.getD (l.getD x 0).toNat 0)).getD y 0≠y->rk ((l.set x (l.getD (l.getD x 0).toNat 0)).getD y 0).toNat<rk y)/\rk (l.getD (l.getD x 0).toNat 0).toNat<rk x/\
  (∀y,y<N->l.getD y 0=R.getD y 0->(l.set x (l.getD (l.getD x 0).toNat 0)).getD y 0=R.getD y 0):=by
 have h1:=h.rng x hx
 have r1:=hr x hx hne
 have r2:rk (l.getD (l.getD x 0).toNat 0).toNat<=rk (l.getD x 0).toNat:=by
  by_cases e:l.getD (l.getD x 0).toNat 0=((l.getD x 0).toNat:Int)
  ·rw [e,Int.toNat_natCast];exact Nat.le_refl _
  ·exact Nat.le_of_lt (hr _ (by omega) e)
 refine ⟨fun y hy hny=>?_,by omega,fun y hy e0=>?_⟩
 ·by_cases e:x=y
  ·subst e;rw [ybf (by rw [h.len];exact hx)];omega
  ·rw [ybo e] at hny⊢;exact hr y hy hny
 ·by_cases e:x=y
  ·subst e
   rw [ybf (by rw [h.len];exact hx),e0]
   have hi:=h.rep.idem x hx
   have hg:=h.rep.rng x hx
   have:=(h.root (R.getD x 0).toNat (by omega)).2 (by omega)
   omega
  ·rw [ybo e];exact e0
theorem UF.init (N:Nat):UF ((List.range N).map (Nat.cast:Nat->Int)) ((List.range N).map (Nat.cast:Nat->Int)) N:=by
 have hg: ∀x,x<N->((List.range N).map (Nat.cast:Nat->Int)).getD x 0=x:=fun x hx=>by simp [hx]
 exact ⟨⟨by simp,fun x hx=>by rw [hg x hx];omega,fun x hx=>by rw [hg x hx];simpa using hg x hx⟩,by simp,fun x hx=>by rw [hg x hx];omega,fun x hx=>by rw [hg x hx];simpa using hg x hx,
  fun x hx=>by rw [hg x hx],fun x=>x,fun x hx hn=>absurd (hg x hx) hn⟩
end
end Go.Proofs.YtngegnonblbdhaaDoor
set_option linter.unusedSimpArgs false
set_option linter.unusedVariables false
namespace Go.Proofs.YtngegnonblbdhaaDoor
open Go Go.RowKit
set_option maxRecDepth 100000
theorem yp2 (h b:Int) (h0:0<=h) (h1:h<=100000):Fn Tryd.prog 32 [I h,I b] (I (ybu h b)):=yzq h b h0 h1
theorem ynu (s m:List Int) (L:Int) (hs:s.length<=1000) (hm:ybt m s.length):Fn Tryd.prog 16 [dgA s m L] (.bool (sphM m s.length)):=by
 obtain ⟨p1,p2,p3,p4⟩:=yfy hm
 have hml:=hm.1
 refine Fn.intro [.tmp 2] Tryd.func16 rfl rfl (by decide) (by simp [Tryd.ntmps16]) ?_;rw [Tryd.ntmps16]
 repeat' (first|omega|(try apply yaa);simp only [go_sem,sevalprocAttr]|apply yab<;>(intro h_;(try simp only [h_]);revert h_)|apply And.intro|with_reducible intro h_|trivial|simp only [go_sem,la2];omega)
 refine ⟨yad.fn rfl (ynr s m L hs hm) ?_⟩
 repeat' (first|omega|(try apply yaa);simp only [go_sem,sevalprocAttr]|apply yab<;>(intro h_;(try simp only [h_]);revert h_)|apply And.intro|with_reducible intro h_|trivial|simp only [go_sem,la2];omega)
 generalize hpt:(yah m s.length).1=part at*
 generalize hnp:(yah m s.length).2=np at*
 refine yak.intro (fun n fr H=> ∃k:Nat,k<=part.length/\n=part.length-k/\fr=[(22,I k),(21,I part.length),(20,roI part),(5, .sl 1 1 0 np.toNat),(3,roI part),(1, .ptr 0 0)]/\H=[(1, .cells 3 (.ints (decs part np.toNat k))),(0, .cells 24 (.lst [roI s,roI m,I L]))]) ?_ ?_
 ·refine ⟨_,_,_,?_,0,by omega,rfl,rfl,rfl⟩
  refine Wk.sub ?_ ?_<;>simp only [go_sem,sevalprocAttr]
  simp [decs]
 rintro n fr H ⟨k,hk,rfl,rfl,rfl⟩
 obtain ⟨d1,d2⟩:=yh8 part np.toNat k
 by_cases hkl:k<part.length
 ·have q4:=p4 k (by omega)
  have d3:=d2 (part.getD k 0).toNat
  repeat' (first|omega|(try apply yaa);simp only [go_sem,sevalprocAttr]|apply yab<;>(intro h_;(try simp only [h_]);revert h_)|apply And.intro|with_reducible intro h_|trivial|simp only [go_sem,la2];omega)
  refine ⟨_,_,_,?_,?_,⟨k+1,by omega,rfl,rfl,rfl⟩⟩
  ·omega
  ·refine Wk.sub ?_ ?_<;>simp only [go_sem,sevalprocAttr]
   rfl
 obtain rfl:k=part.length:=by omega
 repeat' (first|omega|(try apply yaa);simp only [go_sem,sevalprocAttr]|apply yab<;>(intro h_;(try simp only [h_]);revert h_)|apply And.intro|with_reducible intro h_|trivial|simp only [go_sem,la2];omega)
 refine yak.intro (fun n fr H=> ∃h:Nat,h<=m.length/\n=m.length-h/\fr=[(40,I h),(39,I m.length),(8, .sl 1 2 0 m.length),(5, .sl 1 1 0 np.toNat),(3,roI part),(1, .ptr 0 0)]/\H=[(2, .cells 4 (.bools (sphN m part np.toNat h).2)),(1, .cells 3 (.ints (sphN m part np.toNat h).1)),(0, .cells 24 (.lst [roI s,roI m,I L]))]) ?_ ?_
 ·refine ⟨_,_,_,?_,0,by omega,rfl,rfl,rfl⟩
  refine Wk.sub ?_ ?_<;>simp only [go_sem,sevalprocAttr]
  all_goals simp [sphN]
 rintro n fr H ⟨h,hh,rfl,rfl,rfl⟩
 obtain ⟨e1,e2,e3⟩:=ye5 m part np.toNat h
 by_cases hhl:h<m.length
 ·have q4:=p4 (h/4) (by omega)
  have e4:=e3 (part.getD (h/4) 0).toNat
  have e5:(h:Int).tdiv 4=(h/4:Nat):=by rw [yp0 (by omega)];omega
  have e6:((h:Int).toNat)=h:=by omega
  repeat' (first|omega|(try apply yaa);simp only [go_sem,sevalprocAttr,e5]|apply yab<;>(intro h_;(try simp only [h_]);revert h_)|apply And.intro|with_reducible intro h_|trivial|simp only [go_sem,la2];omega)
  ·have eS:sphN m part np.toNat (h+1)=sphN m part np.toNat h:=by
    simp only [sphN,sph1];rw [if_pos (by assumption)]
   refine ⟨_,_,_,?_,?_,⟨h+1,by omega,rfl,rfl,rfl⟩⟩
   ·omega
   ·refine Wk.sub ?_ ?_<;>(rw [eS];simp only [go_sem,sevalprocAttr])
  ·have hf:(sphN m part np.toNat h).2.getD h false=false:=by assumption
   have eS:sphN m part np.toNat (h+1)=((sphN m part np.toNat h).1.set (part.getD (h/4) 0).toNat ((sphN m part np.toNat h).1.getD (part.getD (h/4) 0).toNat 0+1),mark m (m.length+1) (sphN m part np.toNat h).2 h):=by
    simp only [sphN,sph1];rw [if_neg (nbt hf)]
   have hu:=y1p (sphN m part np.toNat h).2
   generalize (sphN m part np.toNat h).2=seen0 at*
   generalize (sphN m part np.toNat h).1.set (part.getD (h/4) 0).toNat ((sphN m part np.toNat h).1.getD (part.getD (h/4) 0).toNat 0+1)=exc at*
   refine yak.intro (fun f fr H=> ∃(seen:List Bool) (g:Int),unm seen<f/\seen.length=m.length/\0<=g/\g<4*s.length/\mark m f seen g=mark m (m.length+1) seen0 h/\
    fr=[(10,I g),(40,I h),(39,I m.length),(8, .sl 1 2 0 m.length),(5, .sl 1 1 0 np.toNat),(3,roI part),(1, .ptr 0 0)]/\H=[(2, .cells 4 (.bools seen)),(1, .cells 3 (.ints exc)),(0, .cells 24 (.lst [roI s,roI m,I L]))]) ?_ ?_
   ·refine ⟨m.length+1,_,_,?_,seen0,h,by omega,e2,by omega,by omega,rfl,rfl,rfl⟩
    refine Wk.sub ?_ ?_<;>simp only [go_sem,sevalprocAttr]
   rintro f fr H ⟨seen,g,hf1,hf2,hg0,hg1,hmk,rfl,rfl⟩
   obtain ⟨f',rfl⟩: ∃f',f=f'+1:=⟨f-1,by omega⟩
   have hmr:=hm.2 g.toNat (by omega)
   repeat' (first|omega|(try apply yaa);simp only [go_sem,sevalprocAttr]|apply yab<;>(intro h_;(try simp only [h_]);revert h_)|apply And.intro|with_reducible intro h_|trivial|simp only [go_sem,la2];omega)
   ·refine ⟨yad.fn rfl (yp2 _ _ hmr.1 (by omega)) ?_⟩
    repeat' (first|omega|(try apply yaa);simp only [go_sem,sevalprocAttr]|apply yab<;>(intro h_;(try simp only [h_]);revert h_)|apply And.intro|with_reducible intro h_|trivial|simp only [go_sem,la2];omega)
    have hsg:seen.getD g.toNat false=false:=by assumption
    have hus:=yzm (l:=seen) (i:=g.toNat) (by omega) hsg
    have htr:=yiz (b:= -1) hmr.1 hmr.2
    refine ⟨f',_,_,?_,?_,⟨seen.set g.toNat true,ybu (m.getD g.toNat 0) (-1),by omega,by simp [hf2],htr.1,htr.2,?_,rfl,rfl⟩⟩
    ·omega
    ·refine Wk.sub ?_ ?_<;>simp only [go_sem,sevalprocAttr]
    ·rw [←hmk];simp only [mark];rw [if_neg (nbt hsg)]
   ·have hsg:seen.getD g.toNat false=true:=by assumption
    have hmk2:seen=mark m (m.length+1) seen0 h:=by rw [←hmk];simp only [mark];rw [if_pos hsg]
    refine ⟨_,_,_,?_,?_,⟨h+1,by omega,rfl,rfl,rfl⟩⟩
    ·omega
    ·refine Wk.sub ?_ ?_<;>(rw [eS];simp only [go_sem,sevalprocAttr])
     exact hmk2
 obtain rfl:h=m.length:=by omega
 repeat' (first|omega|(try apply yaa);simp only [go_sem,sevalprocAttr]|apply yab<;>(intro h_;(try simp only [h_]);revert h_)|apply And.intro|with_reducible intro h_|trivial|simp only [go_sem,la2];omega)
 refine yak.intro (fun n fr H=> ∃k:Nat,k<=np.toNat/\n=np.toNat-k/\(∀i,i<k->(sphN m part np.toNat m.length).1.getD i 0=2)/\fr=[(75,I k),(74,I np.toNat),(73, .sl 1 1 0 np.toNat)]/\H=[(1, .cells 3 (.ints (sphN m part np.toNat m.length).1))]) ?_ ?_
 ·refine ⟨_,_,_,?_,0,by omega,rfl,by omega,rfl,rfl⟩
  refine Wk.sub ?_ ?_<;>simp only [go_sem,sevalprocAttr]
 rintro n fr H ⟨k,hk,rfl,hall,rfl,rfl⟩
 repeat' (first|omega|(try apply yaa);simp only [go_sem,sevalprocAttr]|apply yab<;>(intro h_;(try simp only [h_]);revert h_)|apply And.intro|with_reducible intro h_|trivial|simp only [go_sem,la2];omega)
 ·unfold sphM
  rw [hpt,hnp]
  exact (yrq (k:=k) (by rw [(ye5 m part np.toNat m.length).1];omega) (by assumption)).symm
 ·refine ⟨_,_,_,?_,?_,⟨k+1,by omega,rfl,fun i hi=>?_,rfl,rfl⟩⟩
  ·omega
  ·refine Wk.sub ?_ ?_<;>simp only [go_sem,sevalprocAttr]
  ·rcases Nat.lt_or_ge i k with g|g
   ·exact hall i g
   ·rw [show i=k by omega];assumption
 ·unfold sphM
  rw [hpt,hnp]
  exact (ytg (fun i hi=>hall i (by rw [(ye5 m part np.toNat m.length).1] at hi;omega))).symm
end Go.Proofs.YtngegnonblbdhaaDoor
set_option linter.unusedSimpArgs false
set_option linter.unusedVariables false
namespace Go.Proofs.YtngegnonblbdhaaDoor
open Go Go.RowKit
set_option maxRecDepth 100000
set_option maxHeartbeats 4000000
def ytw:Tr:= .node [(0, .node [(1, .node [(2, .node [(3,trD [4,5,6]),(4,trD [3,5,6])]),(3, .node [(2,trD [4,5,6]),(4,trD [2,5,6])]),(4, .node [(2,trD [3,5,6]),(3,trD [2,5,6])])]),(3, .node [(1, .node [(2,trD [4,5,6]),(4,trD [2,5,6])]),(4,trD [1,2,5,6])]),(4, .node [(1, .node [(2,trD [3,5,6]),(3,trD [2,5,6])]),(3,trD [1,2,5,6])])]),(1, .node [(0, .node [(2, .node [(3,trD [4,5,6]),(4,trD [3,5,6])]),(3, .node [(2,trD [4,5,6]),(4,trD [2,5,6])]),(4, .node [(2,trD [3,5,6]),(3,trD [2,5,6])])]),(3, .node [(0, .node [(2,trD [4,5,6]),(4,trD [2,5,6])]),(4,trD [0,2,5,6])]),(4, .node [(0, .node [(2,trD [3,5,6]),(3,trD [2,5,6])]),(3,trD [0,2,5,6])])]),(3, .node [(0, .node [(1, .node [(2,trD [4,5,6]),(4,trD [2,5,6])]),(4,trD [1,2,5,6])]),(1, .node [(0, .node [(2,trD [4,5,6]),(4,trD [2,5,6])]),(4,trD [0,2,5,6])]),(4, .node [(0,trD [1,2,5,6]),(1,trD [0,2,5,6])])]),(4, .node [(0, .node [(1, .node [(2,trD [3,5,6]),(3,trD [2,5,6])]),(3,trD [1,2,5,6])]),(1, .node [(0, .node [(2,trD [3,5,6]),(3,trD [2,5,6])]),(3,trD [0,2,5,6])]),(3, .node [(0,trD [1,2,5,6]),(1,trD [0,2,5,6])])])]
theorem ych (s m:List Int) (L:Int):Fn Tryd.prog 6 [dgA s m L] (.bool (yao s m L)):=by
 refine Fn.intro [.tmp 2] Tryd.func6 rfl rfl (by decide) (by simp [Tryd.ntmps6]) ?_;rw [Tryd.ntmps6]
 repeat' (first|omega|(try apply yaa);simp only [go_sem,sevalprocAttr]|apply yab<;>(intro h_;(try simp only [h_]);revert h_)|apply And.intro|with_reducible intro h_|trivial|simp only [go_sem,la2];omega)
 ·exact vbF (by omega)
 rotate_left
 ·exact vbF (by omega)
 ·exact vbF (by omega)
 ·exact vbF (by omega)
 refine yak.intro (fun n fr H=> ∃k:Nat,k<=s.length/\n=s.length-k/\yc0 s k/\fr=[(34,I k),(33,I s.length),(32,roI s),(3,I s.length),(1, .ptr 0 0)]/\H=[(0, .cells 24 (.lst [roI s,roI m,I L]))]) ?_ ?_
 ·refine ⟨_,_,_,?_,0,by omega,rfl,(fun i hi=>by omega),rfl,rfl⟩
  refine Wk.sub ?_ ?_<;>simp only [go_sem,sevalprocAttr]
 rintro n fr H ⟨k,hk,rfl,hso,rfl,rfl⟩
 repeat' (first|omega|(try apply yaa);simp only [go_sem,sevalprocAttr]|apply yab<;>(intro h_;(try simp only [h_]);revert h_)|apply And.intro|with_reducible intro h_|trivial|simp only [go_sem,la2];omega)
 ·exact vbF fun hv=>by have:=hv.2.2.2.2.1 k (by omega);omega
 ·refine ⟨_,_,_,?_,?_,⟨k+1,by omega,rfl,yhn hso (by omega),rfl,rfl⟩⟩
  ·omega
  ·refine Wk.sub ?_ ?_<;>simp only [go_sem,sevalprocAttr]
 ·refine ⟨_,_,_,?_,?_,⟨k+1,by omega,rfl,yhn hso (by omega),rfl,rfl⟩⟩
  ·omega
  ·refine Wk.sub ?_ ?_<;>simp only [go_sem,sevalprocAttr]
 obtain rfl:k=s.length:=by omega
 refine yak.intro (fun n fr H=> ∃k:Nat,k<=m.length/\n=m.length-k/\yc1 s m k/\fr=[(48,I k),(47,I m.length),(46,roI m),(3,I s.length),(1, .ptr 0 0)]/\H=[(0, .cells 24 (.lst [roI s,roI m,I L]))]) ?_ ?_
 ·refine ⟨_,_,_,?_,0,by omega,rfl,(fun i hi=>by omega),rfl,rfl⟩
  refine Wk.sub ?_ ?_<;>simp only [go_sem,sevalprocAttr]
 rintro n fr H ⟨h,hh,rfl,hmo,rfl,rfl⟩
 repeat' (first|omega|(first|apply yaa|(refine yac.intro (id:=15) [[76,78,79],[75,78,79],[78,79],[75,76,77,79],[75,76,77,78],[],[]] [[],[0],[],[0,1,2],[0,1,2,3],[],[]] (by decide+kernel) mixed ?_)|(refine yac.introT (id:=15) (ytw) (by decide+kernel) mixed ?_)|skip);simp only [go_sem,sevalprocAttr,↓reduceIte,reduceCtorEq,ytw]|apply yab<;>(intro h_;(try simp only [h_]);revert h_)|apply And.intro|with_reducible intro h_|trivial|simp only [go_sem,la2];omega)
 ·exact vbF fun hv=>by have:=hv.2.2.2.2.2 h (by omega);omega
 ·have h4:m.getD h 0<4*s.length:=by assumption
  refine ⟨yav.fn rfl (yi1 s m L h (by omega) (by omega) (by omega)) ?_⟩
  repeat' (first|omega|(try apply yaa);simp only [go_sem,sevalprocAttr]|apply yab<;>(intro h_;(try simp only [h_]);revert h_)|apply And.intro|with_reducible intro h_|trivial|simp only [go_sem,la2];omega)
  refine ⟨yav.fn rfl (yi1 s m L (m.getD h 0) (by assumption) h4 (by omega)) ?_⟩
  repeat' (first|omega|(try apply yaa);simp only [go_sem,sevalprocAttr]|apply yab<;>(intro h_;(try simp only [h_]);revert h_)|apply And.intro|with_reducible intro h_|trivial|simp only [go_sem,la2];omega)
  ·exact vbF fun hv=>by have:=hv.2.2.2.2.2 h (by omega);simp_all
  ·refine ⟨_,_,_,?_,?_,⟨h+1,by omega,rfl,ynh hmo ⟨by assumption,h4,by assumption,by assumption,by assumption⟩,rfl,rfl⟩⟩
   ·omega
   ·refine Wk.sub ?_ ?_<;>simp only [go_sem,sevalprocAttr]
 ·exact vbF fun hv=>by have:=hv.2.2.2.2.2 h (by omega);omega
 ·exact vbF fun hv=>by have:=hv.2.2.2.2.2 h (by omega);omega
 ·exact vbF fun hv=>by have:=hv.2.2.2.2.2 h (by omega);omega
 ·have hm:m.length=4*s.length:=by omega
  obtain rfl:h=4*s.length:=by omega
  refine ⟨yad.fn rfl (ynu s m L (by omega) ⟨hm,fun i hi=>⟨(hmo i hi).1,(hmo i hi).2.1⟩⟩) ?_⟩
  repeat' (first|omega|(try apply yaa);simp only [go_sem,sevalprocAttr]|apply yab<;>(intro h_;(try simp only [h_]);revert h_)|apply And.intro|with_reducible intro h_|trivial|simp only [go_sem,la2];omega)
  exact vbT ⟨by omega,hm,by assumption,by assumption,hso,hmo⟩
abbrev dgC (s m:List Int) (L:Int):Cs:= .lst [roI s,roI m,I L]
attribute [go_sem] dgC
end Go.Proofs.YtngegnonblbdhaaDoor
