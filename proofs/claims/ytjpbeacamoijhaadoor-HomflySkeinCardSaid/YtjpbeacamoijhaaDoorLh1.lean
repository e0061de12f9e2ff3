/- Layer 20: the law HomflySkein. -/
import Derived.Test.YtjpbeacamoijhaaDoorZva
import Derived.Test.YtjpbeacamoijhaaDoorHx9
import Derived.Test.YtjpbeacamoijhaaDoorZu
import Derived.Test.YtjpbeacamoijhaaDoorZv
import Derived.Test.YtjpbeacamoijhaaDoorRf9
namespace Go.Proofs.YtjpbeacamoijhaaDoor
open Go Go.RowKit
set_option maxRecDepth 100000
set_option maxHeartbeats 8000000
set_option linter.unusedVariables false
set_option linter.unusedSimpArgs false
def ynp:List (List Nat):=[[99,102],[99,102],[97,98,102],[102],[102],[97,98,99,100,101],[],[],[]]
def ynq:Tr:= .node [(0, .node [(1, .node [(2, .node [(3, .node [(4,trD [5,6,7,8]),(5,trD [4,6,7,8])]),(5,trD [3,4,6,7,8])]),(5,trD [2,3,4,6,7,8])]),(2, .node [(1, .node [(3, .node [(4,trD [5,6,7,8]),(5,trD [4,6,7,8])]),(5,trD [3,4,6,7,8])]),(5,trD [1,3,4,6,7,8])]),(5, .node [(1,trD [2,3,4,6,7,8]),(2,trD [1,3,4,6,7,8])])]),(2, .node [(0, .node [(1, .node [(3, .node [(4,trD [5,6,7,8]),(5,trD [4,6,7,8])]),(5,trD [3,4,6,7,8])]),(5,trD [1,3,4,6,7,8])]),(5,trD [0,1,3,4,6,7,8])]),(5, .node [(0, .node [(1,trD [2,3,4,6,7,8]),(2,trD [1,3,4,6,7,8])]),(2,trD [0,1,3,4,6,7,8])])]
theorem yol (s m:List Int) (L:Int) (z:Int) (hz:0<=z/\z<=255):Fn Tryd.prog 3 [dgA s m L, .int .u8 z] (.bool true):=by
 have hA:=yno
 have hG:=ysq s m L
 cases hg:smB s m L with
 |true=>
  rw [hg] at hG
  refine Fn.intro [.tmp 4] Tryd.func3 rfl rfl (by decide) (by simp [Tryd.ntmps3]) ?_;rw [Tryd.ntmps3]
  repeat' (first|omega|(try apply yaa);simp only [go_sem,sevalprocAttr,hA]|(refine ⟨yad.fn (r:=?_) rfl ?_ ?_⟩;rotate_left;assumption)|(refine ⟨yan.fn (r:=?_) rfl ?_ ?_⟩;rotate_left;assumption)|apply yab<;>(intro h_;(try simp only [h_]);revert h_)|apply And.intro|with_reducible intro h_|trivial|simp only [go_sem,la2];omega)
 |false=>
 rw [hg] at hG
 have hV:=ypm s m L
 cases hv:yai s m L with
 |false=>
  rw [hv] at hV
  refine Fn.intro [.tmp 4] Tryd.func3 rfl rfl (by decide) (by simp [Tryd.ntmps3]) ?_;rw [Tryd.ntmps3]
  repeat' (first|omega|(try apply yaa);simp only [go_sem,sevalprocAttr,hA]|(refine ⟨yad.fn (r:=?_) rfl ?_ ?_⟩;rotate_left;assumption)|(refine ⟨yan.fn (r:=?_) rfl ?_ ?_⟩;rotate_left;assumption)|apply yab<;>(intro h_;(try simp only [h_]);revert h_)|apply And.intro|with_reducible intro h_|trivial|simp only [go_sem,la2];omega)
 |true=>
 rw [hv] at hV
 by_cases h0:s.length=0
 ·have b0:((s.length:Int)==0)=true:=by rw [beq_iff_eq];omega
  refine Fn.intro [.tmp 4] Tryd.func3 rfl rfl (by decide) (by simp [Tryd.ntmps3]) ?_;rw [Tryd.ntmps3]
  repeat' (first|omega|(try apply yaa);simp only [go_sem,sevalprocAttr,b0]|(refine ⟨yad.fn (r:=?_) rfl ?_ ?_⟩;rotate_left;assumption)|(refine ⟨yan.fn (r:=?_) rfl ?_ ?_⟩;rotate_left;assumption)|apply yab<;>(intro h_;(try simp only [h_]);revert h_)|apply And.intro|with_reducible intro h_|trivial|simp only [go_sem,la2];omega)
 have b0:((s.length:Int)==0)=false:=by rw [beq_eq_false_iff_ne];omega
 by_cases h6:6<s.length
 ·have b6:decide ((6:Int)<s.length)=true:=by rw [decide_eq_true_iff];omega
  refine Fn.intro [.tmp 4] Tryd.func3 rfl rfl (by decide) (by simp [Tryd.ntmps3]) ?_;rw [Tryd.ntmps3]
  repeat' (first|omega|(try apply yaa);simp only [go_sem,sevalprocAttr,b0,b6]|(refine ⟨yad.fn (r:=?_) rfl ?_ ?_⟩;rotate_left;assumption)|(refine ⟨yan.fn (r:=?_) rfl ?_ ?_⟩;rotate_left;assumption)|apply yab<;>(intro h_;(try simp only [h_]);revert h_)|apply And.intro|with_reducible intro h_|trivial|simp only [go_sem,la2];omega)
 have b6:decide ((6:Int)<s.length)=false:=by rw [decide_eq_false_iff_not];omega
 have v1:=yal hv
 have hl0:=v1.l0
 obtain ⟨l,rfl⟩: ∃l:Nat,L=l:=⟨L.toNat,by omega⟩
 obtain ⟨c,hc⟩: ∃c:Nat,z.tmod s.length=c:=⟨(z % s.length).toNat,by rw [Int.tmod_eq_emod_of_nonneg hz.1];have:=Int.emod_nonneg z (show (s.length:Int)≠0 by omega);omega⟩
 have hcl:c<s.length:=by
  rw [Int.tmod_eq_emod_of_nonneg hz.1] at hc
  have:=Int.emod_lt_of_pos z (show (0:Int)<s.length by omega);omega
 have w1:IntKind.i64.wrap z=z:=IntWalk.i64_in _ (by omega)
 have hk:=ypk hg hv (by omega) (by omega)
 have hlen:=hk.len
 have hvx:=Sp.valid_switch hv hcl
 have hxl:(swS s c).length=s.length:=Sp.swS_len
 have hsr:=Sp.smL_rng (m:=m) (b:=(s.getD c 0== -1)) (c:=c) (n:=s.length)
 have hlp:smLp s m c l=l+smL m (s.getD c 0== -1) c s.length:=rfl
 obtain ⟨l',hl'⟩: ∃l':Nat,smLp s m c l=l':=⟨(smLp s m c l).toNat,by omega⟩
 obtain ⟨hvy,hyl⟩:=Sp.valid_smooth hv hcl (by omega)
 rw [hl'] at hvy
 have hSw:=ypf s m l c (by omega) (by omega) hv
 rw [show exS s (· ==(c:Int))=swS s c from rfl,show exM s m (· ==(c:Int))=swM s m c from rfl] at hSw
 have hSm:=ypg s m l c hcl (by omega) hv _ rfl
 rw [show woS s c s.length=smS s c from rfl,show woM (smE m (s.getD c 0== -1) c (4*s.length)) c s.length=smM s m c from rfl,show (l:Int)+smL m (s.getD c 0== -1) c s.length=(l':Int) from hl'] at hSm
 have kx:yc8 (swS s c) (swM s m c) l:=⟨hvx,by omega,by omega,by omega⟩
 have ky:yc8 (smS s c) (smM s m c) l':=⟨hvy,by omega,by omega,by
  by_cases h1:0<s.length-1
  ·exact .inl (by omega)
  ·obtain rfl:c=0:=by omega
   have:=Sp.smL_one (m:=m) (b:=(s.getD 0 0== -1))
   rw [show s.length=1 by omega] at hlp
   right;omega⟩
 have S0:=Hs.hfE_sup (yal hv)
 have S1:=Hs.hfE_sup (yal hvx)
 have S2:=Hs.hfE_sup (yal hvy)
 have B0:=Hs.hfE_bnd (yal hv) (by omega)
 have B1:=Hs.hfE_bnd (yal hvx) (by omega)
 have B2:=Hs.hfE_bnd (yal hvy) (by omega)
 obtain ⟨P,hP⟩:=yc6 S0 (by omega)
 obtain ⟨Q,hQ⟩:=yc6 S1 (by omega)
 obtain ⟨R,hR⟩:=yc6 S2 (by omega)
 have pP:=yg6 hk hP
 have pQ:=yg6 kx hQ
 have pR:=yg6 ky hR
 have hR2:=yh9 hR (bvE 0 1)
 have sR:=ycy R 0 1 (hR.lenB S2 (by omega)) (by decide) (by decide) (fun t ht=>by have:=hR.memB S2 ht;omega)
 have lR:(bvSh (bvE 0 1) R).length<=1000000:=by rw [yl4];have:=hR.lenB S2 (by omega);omega
 have hE:=ypl (bvSh (bvE 0 1) R) lR
 have hb1:decide (0<=(c:Int))=true:=by simp
 have hb2:decide ((c:Int)<s.length)=true:=by rw [decide_eq_true_iff];omega
 rcases v1.sg c hcl with hsg|hsg
 ·have e1:=fun e=>Hs.skE1 hv hcl hl' hvy hvx (by omega) (by omega) hxl hsg e
  have sP:=ycy P (-1) 0 (hP.lenB S0 (by omega)) (by decide) (by decide) (fun t ht=>by have:=hP.memB S0 ht;omega)
  have sQ:=ycy Q 1 0 (hQ.lenB S1 (by omega)) (by decide) (by decide) (fun t ht=>by have:=hQ.memB S1 ht;omega)
  have hS:=yk2 (r:=bvSh (bvE 0 1) R) (N:=150) (yh9 hP (bvE (-1) 0)) (yh9 hQ (bvE 1 0)) ((S0.shift (a:= -1) (z:=0) (M:=2) (by decide) (by decide) (by omega) (by decide)).mono (by omega)) ((S1.shift (a:=1) (z:=0) (M:=2) (by decide) (by decide) (by omega) (by decide)).mono (by omega)) (by decide) (fun e=>B0 _) (fun e=>B1 _) (hR2.congr fun e=>by rw [←e1 e];omega) (fun e=>by have:=B2 (e-bvE 0 1);rw [←e1 e] at this;dsimp only;omega)
  generalize bvSh (bvE 0 1) R=R' at*
  generalize bvSh (bvE (-1) 0) P=P' at*
  generalize bvSh (bvE 1 0) Q=Q' at*
  clear hvx hxl hlp hl' hvy hyl e1 S1 S2 B1 B2 kx ky hQ hR hR2
  generalize swS s c=sx at*
  generalize swM s m c=mx at*
  generalize smS s c=sy at*
  generalize smM s m c=my at*
  refine Fn.intro [.tmp 4] Tryd.func3 rfl rfl (by decide) (by simp [Tryd.ntmps3]) ?_;rw [Tryd.ntmps3]
  repeat' (first|omega|(try apply yaa);simp only [go_sem,sevalprocAttr,b0,b6,w1,hc,hb1,hb2,yap]|(refine ⟨yad.fn (r:=?_) rfl ?_ ?_⟩;rotate_left;assumption)|(refine ⟨yan.fn (r:=?_) rfl ?_ ?_⟩;rotate_left;assumption)|apply yab<;>(intro h_;(try simp only [h_]);revert h_)|apply And.intro|with_reducible intro h_|trivial|simp only [go_sem,la2];omega)
  repeat' (first|omega|(first|apply yaa|(refine yaf.intro (id:=15) ynp [[],[],[0,1],[],[],[0,1,2,3,4],[],[],[]] (by decide+kernel) mixed ?_)|(refine yaf.introT (id:=15) (ynq) (by decide+kernel) mixed ?_)|skip);simp only [go_sem,sevalprocAttr,hsg,hb1,hb2,yap,↓reduceIte,reduceCtorEq,ynp,ynq]|(refine ⟨yad.fn (r:=?_) rfl ?_ ?_⟩;rotate_left;assumption)|(refine ⟨yan.fn (r:=?_) rfl ?_ ?_⟩;rotate_left;assumption)|apply yab<;>(intro h_;(try simp only [h_]);revert h_)|apply And.intro|with_reducible intro h_|trivial|simp only [go_sem,la2];omega)
 ·have e1:=fun e=>Hs.skE2 hv hcl hl' hvy hvx (by omega) (by omega) hxl hsg e
  have sP:=ycy P 1 0 (hP.lenB S0 (by omega)) (by decide) (by decide) (fun t ht=>by have:=hP.memB S0 ht;omega)
  have sQ:=ycy Q (-1) 0 (hQ.lenB S1 (by omega)) (by decide) (by decide) (fun t ht=>by have:=hQ.memB S1 ht;omega)
  have hS:=yk2 (r:=bvSh (bvE 0 1) R) (N:=150) (yh9 hQ (bvE (-1) 0)) (yh9 hP (bvE 1 0)) ((S1.shift (a:= -1) (z:=0) (M:=2) (by decide) (by decide) (by omega) (by decide)).mono (by omega)) ((S0.shift (a:=1) (z:=0) (M:=2) (by decide) (by decide) (by omega) (by decide)).mono (by omega)) (by decide) (fun e=>B1 _) (fun e=>B0 _) (hR2.congr fun e=>by rw [←e1 e];omega) (fun e=>by have:=B2 (e-bvE 0 1);rw [←e1 e] at this;dsimp only;omega)
  generalize bvSh (bvE 0 1) R=R' at*
  generalize bvSh (bvE (-1) 0) Q=Q' at*
  generalize bvSh (bvE 1 0) P=P' at*
  clear hvx hxl hlp hl' hvy hyl e1 S1 S2 B1 B2 kx ky hQ hR hR2
  generalize swS s c=sx at*
  generalize swM s m c=mx at*
  generalize smS s c=sy at*
  generalize smM s m c=my at*
  refine Fn.intro [.tmp 4] Tryd.func3 rfl rfl (by decide) (by simp [Tryd.ntmps3]) ?_;rw [Tryd.ntmps3]
  repeat' (first|omega|(try apply yaa);simp only [go_sem,sevalprocAttr,b0,b6,w1,hc,hb1,hb2,yap]|(refine ⟨yad.fn (r:=?_) rfl ?_ ?_⟩;rotate_left;assumption)|(refine ⟨yan.fn (r:=?_) rfl ?_ ?_⟩;rotate_left;assumption)|apply yab<;>(intro h_;(try simp only [h_]);revert h_)|apply And.intro|with_reducible intro h_|trivial|simp only [go_sem,la2];omega)
  repeat' (first|omega|(first|apply yaa|(refine yaf.intro (id:=15) ynp [[],[],[0,1],[],[],[0,1,2,3,4],[],[],[]] (by decide+kernel) mixed ?_)|(refine yaf.introT (id:=15) (ynq) (by decide+kernel) mixed ?_)|skip);simp only [go_sem,sevalprocAttr,hsg,hb1,hb2,yap,↓reduceIte,reduceCtorEq,ynp,ynq]|(refine ⟨yad.fn (r:=?_) rfl ?_ ?_⟩;rotate_left;assumption)|(refine ⟨yan.fn (r:=?_) rfl ?_ ?_⟩;rotate_left;assumption)|apply yab<;>(intro h_;(try simp only [h_]);revert h_)|apply And.intro|with_reducible intro h_|trivial|simp only [go_sem,la2];omega)
end Go.Proofs.YtjpbeacamoijhaaDoor
