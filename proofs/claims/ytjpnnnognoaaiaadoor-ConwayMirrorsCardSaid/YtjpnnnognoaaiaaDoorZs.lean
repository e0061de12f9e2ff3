/- Layer 19: Poly yields the polynomial whose coefficients are the values of the resolutions. -/
import Derived.Test.YtjpnnnognoaaiaaDoorZi
import Derived.Test.YtjpnnnognoaaiaaDoorZj
import Derived.Test.YtjpnnnognoaaiaaDoorZk
import Derived.Test.YtjpnnnognoaaiaaDoorZr
import Derived.Test.YtjpnnnognoaaiaaDoorLa2
import Derived.Test.YtjpnnnognoaaiaaDoorZf
import Derived.Test.YtjpnnnognoaaiaaDoorZc
import Derived.Test.YtjpnnnognoaaiaaDoorZo
namespace Go.Proofs.YtjpnnnognoaaiaaDoor
open Go Go.RowKit
set_option maxRecDepth 100000
set_option maxHeartbeats 8000000
set_option linter.unusedVariables false
set_option linter.unusedSimpArgs false
def cwF (s m:List Int) (L:Int) (e:Int):Int:=Hs.HF (Hs.Xc e) s m L
theorem yob {s m:List Int} {L:Int} {e:Int} (h:e<0):cwF s m L e=0:=
 Hs.run_zero (j0:=0) (fun i j k hj=>by unfold Hs.Xc;exact if_neg (by omega)) _ _ (Int.le_refl _)
theorem yg7 {s m:List Int} {l:Nat} (hv:yag s m l=true) (hn:s.length<=14) (hl:l<=30) (h0: ¬(s.length=0/\l=0)):
  ∃P,ybw P (cwF s m l)/\Fn Tryd.prog 6 [dgA s m l] (.tup [plA false P,I 0])/\(∀e,cwF s m l e≠0->0<=e/\e<=s.length)/\(∀e,-1000000000000<=cwF s m l e/\cwF s m l e<=1000000000000):=by
 have v1:=yan hv
 have hbl:=Sp.bc_le v1
 obtain ⟨q,q1,q2,q3,_,q5⟩:=Sp.conw (s.length*s.length+Sp.bc s m+1) s m l hv (by omega) (by omega) (Nat.le_refl _)
 have hf:=Hs.rfM_HF _ s m l q hv (by omega) q1
 have hc: ∀e,cfL (Sp.tmsF 0 q) e=cwF s m l e:=fun e=>by
  rw [yyg]
  by_cases h:0<=e
  ·obtain ⟨p,rfl⟩: ∃p:Nat,e=p:=⟨e.toNat,by omega⟩
   rw [if_pos h,show ((p:Int)-0).toNat=p by omega,hf p];rfl
  ·rw [if_neg h,yob (by omega)]
 refine ⟨Sp.tmsF 0 q,⟨ytn q 0,hc⟩,?_,fun e he=>?_,fun e=>?_⟩
 ·by_cases h:0<s.length
  ·exact yqt s m l _ _ hv h (by omega) q5
  ·obtain rfl:s=[]:=List.eq_nil_of_length_eq_zero (by omega)
   exact y1z m l _ _ hv (by simp at h0;omega) q5
 ·by_cases h:0<=e
  ·obtain ⟨p,rfl⟩: ∃p:Nat,e=p:=⟨e.toNat,by omega⟩
   have:=hf p
   have e1:cwF s m l p=Hs.HF (Hs.Xc p) s m l:=rfl
   rw [e1,←this] at he
   by_cases hp:p<q.length
   ·omega
   ·exact absurd (by simp [List.getD_eq_getElem?_getD,Nat.le_of_not_lt hp]) he
  ·exact absurd (yob (by omega)) he
 ·by_cases h:0<=e
  ·obtain ⟨p,rfl⟩: ∃p:Nat,e=p:=⟨e.toNat,by omega⟩
   have e1:cwF s m l p=Hs.HF (Hs.Xc p) s m l:=rfl
   rw [e1,←hf p]
   by_cases hp:p<q.length
   ·have hm:q.getD p 0∈q:=by simp [hp]
    have:=q3 _ hm
    have k:=Nat.le_trans (Sp.cB_le (n:=s.length) (b:=Sp.bc s m) hbl) (Sp.kC_14 s.length hn)
    omega
   ·rw [show q.getD p 0=0 by simp [List.getD_eq_getElem?_getD,Nat.le_of_not_lt hp]];omega
  ·rw [yob (by omega)];omega
end Go.Proofs.YtjpnnnognoaaiaaDoor
namespace Go.Proofs.YtjpnnnognoaaiaaDoor
open Go Go.RowKit
set_option maxRecDepth 100000
set_option maxHeartbeats 8000000
set_option linter.unusedVariables false
set_option linter.unusedSimpArgs false
def sbF (a b:Int):Int:=a-b
theorem y5u (a b:Int) (h1: -1125899906842624<=a) (h2:a<=1125899906842624) (h3: -1125899906842624<=b) (h4:b<=1125899906842624):Fn Tryd.prog 31 [I a,I b] (I (sbF a b)):=by
 unfold sbF
 refine Fn.intro [.tmp 4] Tryd.func31 rfl rfl (by decide) (by simp [Tryd.ntmps31]) ?_;rw [Tryd.ntmps31]
 repeat' (first|omega|(try apply yaa);simp only [go_sem,sevalprocAttr]|apply yab<;>(intro h_;(try simp only [h_]);revert h_)|apply And.intro|with_reducible intro h_|trivial|simp only [go_sem,la2];omega)
theorem y5v (p q:List (Int×Int)) (hp:yfu p) (hq:yfu q) (hpl:p.length<=500000) (hql:q.length<=500000) (hok:ycd (mrg sbF p q)=true):Fn Tryd.prog 14 [plA false p,plA false q] (plA false (nz (mrg sbF p q))):=by
 have hc:=yiy p q 31 sbF hp hq hpl hql (fun a b h1 h2 h3 h4=>y5u a b h1 h2 h3 h4)
 rw [if_pos hok] at hc
 refine Fn.intro [.cell 4 29] Tryd.func14 rfl rfl (by decide) (by simp [Tryd.ntmps14]) ?_;rw [Tryd.ntmps14]
 repeat' (first|omega|(try apply yaa);simp only [go_sem,sevalprocAttr]|apply yab<;>(intro h_;(try simp only [h_]);revert h_)|apply And.intro|with_reducible intro h_|trivial|simp only [go_sem,la2];omega)
 refine ⟨yae.fn rfl hc ?_⟩
 repeat' (first|omega|(try apply yaa);simp only [go_sem,sevalprocAttr]|apply yab<;>(intro h_;(try simp only [h_]);revert h_)|apply And.intro|with_reducible intro h_|trivial|simp only [go_sem,la2];omega)
theorem y7r {p q:List (Int×Int)} {f g:Int->Int} (hp:ybw p f) (hq:ybw q g) (hs: ∀e,f e≠0-> -1000<=e/\e<=1000) (ht: ∀e,g e≠0-> -1000<=e/\e<=1000)
  (hf: ∀e,-562949953421312<=f e/\f e<=562949953421312) (hg: ∀e,-562949953421312<=g e/\g e<=562949953421312):
  ∃r,ybw r (fun e=>f e-g e)/\Fn Tryd.prog 14 [plA false p,plA false q] (plA false r):=by
 have ha:=y48 sbF p q hp.asc.asc hq.asc.asc
 have hc: ∀x,cfL (mrg sbF p q) x=f x-g x:=fun x=>by rw [y49 sbF rfl p q hp.asc.asc hq.asc.asc,hp.cf,hq.cf];rfl
 refine ⟨nz (mrg sbF p q),⟨y66 ha,fun e=>by rw [y65,hc]⟩,y5v p q (hp.fits fun e=>by have:=hf e;omega) (hq.fits fun e=>by have:=hg e;omega) (by have:=hp.len hs;omega) (by have:=hq.len ht;omega) ?_⟩
 unfold ycd
 rw [List.all_eq_true]
 intro t ht
 have:=y11 ha ht
 rw [hc] at this
 have h1:=hf t.1
 have h2:=hg t.1
 exact yq1 (by omega) (by omega)
end Go.Proofs.YtjpnnnognoaaiaaDoor
set_option linter.unusedSimpArgs false
set_option linter.unusedVariables false
namespace Go.Proofs.YtjpnnnognoaaiaaDoor
open Go Go.RowKit
set_option maxHeartbeats 8000000
set_option maxRecDepth 100000
theorem y5w (c e:Int) (h0: -1125899906842624<=c/\c<=1125899906842624) (h1: -1048576<=e/\e<=1048576):Fn Tryd.prog 15 [I c,I e] (plA false (trm c e)):=by
 have hw1:=ydz c 1125899906842624 (by omega) (by omega)
 have hw2:=ydz e 1048576 (by omega) (by omega)
 rw [yq1 (by omega) (by omega)] at hw1 hw2
 unfold trm
 by_cases h:c=0
 ·have bz:(c==0)=true:=by simpa using h
  rw [if_pos h]
  refine Fn.introL [.cell 4 29] Tryd.func15 rfl rfl (by decide) (by simp [Tryd.ntmps15]) ?_;rw [Tryd.ntmps15]
  repeat' (first|omega|(try apply yaa);simp only [go_sem,sevalprocAttr,bz]|apply yab<;>(intro h_;(try simp only [h_]);revert h_)|apply And.intro|with_reducible intro h_|trivial|simp only [go_sem,la2];omega)
  all_goals exact LeA.aggL (.cons (LeA.refl _) (.cons (LeA.nils (by omega) rfl) .nil))
 ·have bz:(c==0)=false:=by rw [beq_eq_false_iff_ne];exact h
  rw [if_neg h]
  refine Fn.introL [.cell 4 29] Tryd.func15 rfl rfl (by decide) (by simp [Tryd.ntmps15]) ?_;rw [Tryd.ntmps15]
  repeat' (first|omega|(try apply yaa);simp only [go_sem,sevalprocAttr,bz]|apply yab<;>(intro h_;(try simp only [h_]);revert h_)|apply And.intro|with_reducible intro h_|trivial|simp only [go_sem,la2];omega)
  refine ⟨yae.fn rfl hw1 ?_⟩
  repeat' (first|omega|(try apply yaa);simp only [go_sem,sevalprocAttr]|apply yab<;>(intro h_;(try simp only [h_]);revert h_)|apply And.intro|with_reducible intro h_|trivial|simp only [go_sem,la2];omega)
  refine ⟨yae.fn rfl hw2 ?_⟩
  repeat' (first|omega|(try apply yaa);simp only [go_sem,sevalprocAttr]|apply yab<;>(intro h_;(try simp only [h_]);revert h_)|apply And.intro|with_reducible intro h_|trivial|simp only [go_sem,la2];omega)
  all_goals exact LeA.of rfl
end Go.Proofs.YtjpnnnognoaaiaaDoor
set_option linter.unusedSimpArgs false
set_option linter.unusedVariables false
namespace Go.Proofs.YtjpnnnognoaaiaaDoor
open Go Go.RowKit
set_option maxRecDepth 100000
set_option maxHeartbeats 4000000
def yzg:List (List Nat):=[[17,20,21,22,23],[16,20,21,22,23],[20,21,22,23],[20,21,22,23],[16,17,18,19,21],[16,17,18,19,20],[16,17,18,19],[16,17,18,19],[]]
theorem yr3:eq2 Tryd.prog 52=true:=by decide+kernel
theorem y7s (p:List (Int×Int)) (hl:p.length<=1000000):Fn Tryd.prog 29 [.ro 2 p.length (.lst (tmC p)), .ro 2 p.length (.lst (tmC p))] (.bool true):=by
 have hlen:=ydr p
 have b0:((p.length:Int)!=p.length)=false:=by simp
 refine Fn.intro [.tmp 4] Tryd.func29 rfl rfl (by decide) (by simp [Tryd.ntmps29]) ?_;rw [Tryd.ntmps29]
 repeat' (first|omega|(try apply yaa);simp only [go_sem,sevalprocAttr,b0]|apply yab<;>(intro h_;(try simp only [h_]);revert h_)|apply And.intro|with_reducible intro h_|trivial|simp only [go_sem,la2];omega)
 refine ya0.intro (fun n fr H=> ∃k:Nat,k<=p.length/\n=p.length-k/\fr=[(13,I k),(12,I p.length),(1, .ro 2 p.length (.lst (tmC p))),(0, .ro 2 p.length (.lst (tmC p)))]/\H=[]) ?_ ?_
 ·refine ⟨_,_,_,?_,0,by omega,rfl,rfl,rfl⟩
  refine Wk.sub ?_ ?_<;>(simp only [go_sem,sevalprocAttr,yd0])
 rintro n fr H ⟨k,hk,rfl,rfl,rfl⟩
 by_cases hkl:k<p.length
 ·have g0:=ycj p k hkl
  have g1:=ydy p k hkl
  have b1:((p.getD k (0,0)).1==(p.getD k (0,0)).1)=true:=by simp
  have b2:((p.getD k (0,0)).2==(p.getD k (0,0)).2)=true:=by simp
  repeat' (first|omega|(first|apply yaa|(refine yac.intro (id:=6) yzg [[],[0],[],[],[0,1,2,3],[0,1,2,3,4],[0,1,2,3],[0,1,2,3],[]] (by decide+kernel) mixed ?_)|skip);simp only [go_sem,sevalprocAttr,g0,g1,hlen,b1,b2,yr3,↓reduceIte,reduceCtorEq,yzg]|apply yab<;>(intro h_;(try simp only [h_]);revert h_)|apply And.intro|with_reducible intro h_|trivial|simp only [go_sem,la2];omega)
  all_goals (first|exact yr3|skip)
  refine ⟨_,_,_,?_,?_,⟨k+1,by omega,rfl,rfl,rfl⟩⟩
  ·omega
  ·refine Wk.sub ?_ ?_<;>(simp only [go_sem,sevalprocAttr,yd0])
 ·obtain rfl:k=p.length:=by omega
  repeat' (first|omega|(try apply yaa);simp only [go_sem,sevalprocAttr]|apply yab<;>(intro h_;(try simp only [h_]);revert h_)|apply And.intro|with_reducible intro h_|trivial|simp only [go_sem,la2];omega)
theorem yr4 (p:List (Int×Int)) (hl:p.length<=1000000):Fn Tryd.prog 13 [plA false p,plA false p] (.bool true):=by
 have hS:=y7s p hl
 refine Fn.intro [.tmp 4] Tryd.func13 rfl rfl (by decide) (by simp [Tryd.ntmps13]) ?_;rw [Tryd.ntmps13]
 repeat' (first|omega|(try apply yaa);simp only [go_sem,sevalprocAttr,yd0]|apply yab<;>(intro h_;(try simp only [h_]);revert h_)|apply And.intro|with_reducible intro h_|trivial|simp only [go_sem,la2];omega)
 refine ⟨yae.fn rfl hS ?_⟩
 repeat' (first|omega|(try apply yaa);simp only [go_sem,sevalprocAttr]|apply yab<;>(intro h_;(try simp only [h_]);revert h_)|apply And.intro|with_reducible intro h_|trivial|simp only [go_sem,la2];omega)
end Go.Proofs.YtjpnnnognoaaiaaDoor
set_option linter.unusedSimpArgs false
set_option linter.unusedVariables false
namespace Go.Proofs.YtjpnnnognoaaiaaDoor
open Go Go.RowKit
set_option maxRecDepth 100000
set_option maxHeartbeats 4000000
theorem yvx (x:Int):Fn Tryd.prog 23 [I x] (.bool true):=by
 refine Fn.intro [.tmp 2] Tryd.func23 rfl rfl (by decide) (by simp [Tryd.ntmps23]) ?_;rw [Tryd.ntmps23]
 repeat' (first|omega|(try apply yaa);simp only [go_sem,sevalprocAttr]|apply yab<;>(intro h_;(try simp only [h_]);revert h_)|apply And.intro|with_reducible intro h_|trivial|simp only [go_sem,la2];omega)
theorem yzh (s m:List Int) (L:Int) (hv:yag s m L=true):Fn Tryd.prog 7 [dgA s m L] (.tup [dgA (exS s fun _=>true) (exM s m fun _=>true) L,I 0]):=by
 have v1:=yan hv
 have h64:=v1.s64
 have hf:=ylf s m L 23 [] (fun _=>true) (by omega) v1.sg v1.prd.ok rfl (fun x _ _=>yvx x)
 have hV:=ybs s m L
 rw [hv] at hV
 refine Fn.intro [.cell 2 24, .tmp 3] Tryd.func7 rfl rfl (by decide) (by simp [Tryd.ntmps7]) ?_;rw [Tryd.ntmps7]
 repeat' (first|omega|(try apply yaa);simp only [go_sem,sevalprocAttr]|apply yab<;>(intro h_;(try simp only [h_]);revert h_)|apply And.intro|with_reducible intro h_|trivial|simp only [go_sem,la2];omega)
 refine ⟨yae.fn rfl hV ?_⟩
 repeat' (first|omega|(try apply yaa);simp only [go_sem,sevalprocAttr]|apply yab<;>(intro h_;(try simp only [h_]);revert h_)|apply And.intro|with_reducible intro h_|trivial|simp only [go_sem,la2];omega)
 refine ⟨yae.fn rfl hf ?_⟩
 repeat' (first|omega|(try apply yaa);simp only [go_sem,sevalprocAttr]|apply yab<;>(intro h_;(try simp only [h_]);revert h_)|apply And.intro|with_reducible intro h_|trivial|simp only [go_sem,la2];omega)
end Go.Proofs.YtjpnnnognoaaiaaDoor
set_option linter.unusedSimpArgs false
set_option linter.unusedVariables false
namespace Go.Proofs.YtjpnnnognoaaiaaDoor
open Go Go.RowKit
set_option maxRecDepth 100000
set_option maxHeartbeats 4000000
theorem yst (c x:Int) (h0:0<=x) (h1:x<4):Fn Tryd.prog 24 [I c,I x] (I (4-2*x)):=by
 refine Fn.intro [.tmp 4] Tryd.func24 rfl rfl (by decide) (by simp [Tryd.ntmps24]) ?_;rw [Tryd.ntmps24]
 repeat' (first|omega|(try apply yaa);simp only [go_sem,sevalprocAttr]|apply yab<;>(intro h_;(try simp only [h_]);revert h_)|apply And.intro|with_reducible intro h_|trivial|simp only [go_sem,la2];omega)
theorem ysu (c:Int):Fn Tryd.prog 26 [I c] (I (-1)):=by
 refine Fn.intro [.tmp 2] Tryd.func26 rfl rfl (by decide) (by simp [Tryd.ntmps26]) ?_;rw [Tryd.ntmps26]
 repeat' (first|omega|(try apply yaa);simp only [go_sem,sevalprocAttr]|apply yab<;>(intro h_;(try simp only [h_]);revert h_)|apply And.intro|with_reducible intro h_|trivial|simp only [go_sem,la2];omega)
theorem yvy (s m:List Int) (L:Int) (hv:yag s m L=true):Fn Tryd.prog 8 [dgA s m L] (.tup [dgA (sgM s (fun _=> -1) s.length) (mvM m (fun h=>yao h (4-2*(h % 4))) m.length) L,I 0]):=by
 have v1:=yan hv
 have h64:=v1.s64
 have hf:=ynw s m L 24 26 [] [] (fun _ x=>4-2*x) (fun _=> -1) (by omega) v1.prd.ok rfl rfl (fun c x _ _ h0 h1=>yst c x h0 h1) (fun c hc=>⟨ysu c,by
  have:=v1.sg c hc;unfold InI;rcases this with h|h<;>rw [h]<;>omega⟩)
 have hV:=ybs s m L
 rw [hv] at hV
 refine Fn.intro [.cell 2 24, .tmp 3] Tryd.func8 rfl rfl (by decide) (by simp [Tryd.ntmps8]) ?_;rw [Tryd.ntmps8]
 repeat' (first|omega|(try apply yaa);simp only [go_sem,sevalprocAttr]|apply yab<;>(intro h_;(try simp only [h_]);revert h_)|apply And.intro|with_reducible intro h_|trivial|simp only [go_sem,la2];omega)
 refine ⟨yae.fn rfl hV ?_⟩
 repeat' (first|omega|(try apply yaa);simp only [go_sem,sevalprocAttr]|apply yab<;>(intro h_;(try simp only [h_]);revert h_)|apply And.intro|with_reducible intro h_|trivial|simp only [go_sem,la2];omega)
 refine ⟨yae.fn rfl hf ?_⟩
 repeat' (first|omega|(try apply yaa);simp only [go_sem,sevalprocAttr]|apply yab<;>(intro h_;(try simp only [h_]);revert h_)|apply And.intro|with_reducible intro h_|trivial|simp only [go_sem,la2];omega)
theorem ysv (c x:Int):Fn Tryd.prog 27 [I c,I x] (I 2):=by
 refine Fn.intro [.tmp 4] Tryd.func27 rfl rfl (by decide) (by simp [Tryd.ntmps27]) ?_;rw [Tryd.ntmps27]
 repeat' (first|omega|(try apply yaa);simp only [go_sem,sevalprocAttr]|apply yab<;>(intro h_;(try simp only [h_]);revert h_)|apply And.intro|with_reducible intro h_|trivial|simp only [go_sem,la2];omega)
theorem ysw (c:Int):Fn Tryd.prog 28 [I c] (I 1):=by
 refine Fn.intro [.tmp 2] Tryd.func28 rfl rfl (by decide) (by simp [Tryd.ntmps28]) ?_;rw [Tryd.ntmps28]
 repeat' (first|omega|(try apply yaa);simp only [go_sem,sevalprocAttr]|apply yab<;>(intro h_;(try simp only [h_]);revert h_)|apply And.intro|with_reducible intro h_|trivial|simp only [go_sem,la2];omega)
theorem yvz (s m:List Int) (L:Int) (hv:yag s m L=true):Fn Tryd.prog 9 [dgA s m L] (.tup [dgA (sgM s (fun _=>1) s.length) (mvM m (fun h=>yao h 2) m.length) L,I 0]):=by
 have v1:=yan hv
 have h64:=v1.s64
 have hf:=ynw s m L 27 28 [] [] (fun _ _=>2) (fun _=>1) (by omega) v1.prd.ok rfl rfl (fun c x _ _ _ _=>ysv c x) (fun c hc=>⟨ysw c,by
  have:=v1.sg c hc;unfold InI;rcases this with h|h<;>rw [h]<;>omega⟩)
 have hV:=ybs s m L
 rw [hv] at hV
 refine Fn.intro [.cell 2 24, .tmp 3] Tryd.func9 rfl rfl (by decide) (by simp [Tryd.ntmps9]) ?_;rw [Tryd.ntmps9]
 repeat' (first|omega|(try apply yaa);simp only [go_sem,sevalprocAttr]|apply yab<;>(intro h_;(try simp only [h_]);revert h_)|apply And.intro|with_reducible intro h_|trivial|simp only [go_sem,la2];omega)
 refine ⟨yae.fn rfl hV ?_⟩
 repeat' (first|omega|(try apply yaa);simp only [go_sem,sevalprocAttr]|apply yab<;>(intro h_;(try simp only [h_]);revert h_)|apply And.intro|with_reducible intro h_|trivial|simp only [go_sem,la2];omega)
 refine ⟨yae.fn rfl hf ?_⟩
 repeat' (first|omega|(try apply yaa);simp only [go_sem,sevalprocAttr]|apply yab<;>(intro h_;(try simp only [h_]);revert h_)|apply And.intro|with_reducible intro h_|trivial|simp only [go_sem,la2];omega)
end Go.Proofs.YtjpnnnognoaaiaaDoor
namespace Go.Proofs.YtjpnnnognoaaiaaDoor
set_option linter.unusedSimpArgs false
set_option linter.unusedVariables false
structure Ord (n:Nat) (o nu:Nat->Nat):Prop where
 ol: ∀i,i<n->o i<n
 nl: ∀c,c<n->nu c<n
 no: ∀i,i<n->nu (o i)=i
 on: ∀c,c<n->o (nu c)=c
def rnF (nu:Nat->Nat) (x:Nat):Nat:=4*nu (x/4)+x % 4
def rnS (s:List Int) (o:Nat->Nat) (n:Nat):List Int:=(List.range n).map fun i=>s.getD (o i) 0
def rnM (m:List Int) (o nu:Nat->Nat) (n:Nat):List Int:=(List.range (4*n)).map fun y=>(rnF nu (m.getD (rnF o y) 0).toNat:Int)
section
variable {s m:List Int} {L:Int} {o nu:Nat->Nat}
theorem yl8 {n:Nat} {o nu:Nat->Nat} (h: ∀i,i<n->nu (o i)=i) {x:Nat} (hx:x<4*n):rnF nu (rnF o x)=x:=by
 have:=h (x/4) (by omega)
 unfold rnF
 rw [show (4*o (x/4)+x % 4)/4=o (x/4) by omega,this];omega
theorem yzi (hp:PmOk m s.length) (h:Ord s.length o nu):Rel s.length (rnF nu) (rnF o) m (rnM m o nu s.length):=by
 have fl: ∀x,x<4*s.length->rnF nu x<4*s.length:=fun x hx=>by have:=h.nl (x/4) (by omega);unfold rnF;omega
 refine ⟨fl,fun x hx=>by have:=h.ol (x/4) (by omega);unfold rnF;omega,fun x hx=>yl8 h.on hx,fun x hx=>yl8 h.no hx,by simp [rnM],fun x hx=>?_⟩
 unfold rnM
 have:=fl x hx
 simp only [List.getD_eq_getElem?_getD,List.getElem?_map,List.getElem?_range this,Option.map_some,Option.getD_some]
 rw [yl8 h.on hx]
theorem y9d (nu:Nat->Nat) (c:Nat):rnF nu (4*c)=4*nu c/\rnF nu (4*c+1)=4*nu c+1/\rnF nu (4*c+2)=4*nu c+2/\rnF nu (4*c+3)=4*nu c+3:=by
 unfold rnF
 rw [show 4*c/4=c by omega,show (4*c+1)/4=c by omega,show (4*c+2)/4=c by omega,show (4*c+3)/4=c by omega]
 omega
theorem yr5 (hv:yag s m L=true) (h:Ord s.length o nu):yag (rnS s o s.length) (rnM m o nu s.length) L=true:=by
 have v:=yan hv
 have hp:=pmOk hv
 have sg: ∀i,i<s.length->(rnS s o s.length).getD i 0=s.getD (o i) 0:=fun i hi=>by
  unfold rnS
  simp only [List.getD_eq_getElem?_getD,List.getElem?_map,List.getElem?_range hi,Option.map_some,Option.getD_some]
 refine yhi hv (by simp [rnS]) (yzi hp h) (fun i hi=>by rw [sg i hi];exact v.sg _ (h.ol i hi)) false (fun x hx=>?_) (.inl fun x hx=>?_)
 ·rw [Bool.false_xor]
  obtain ⟨c,hc⟩: ∃c,x/4=c:=⟨_,rfl⟩
  have hx4:=four x
  rw [hc] at hx4
  have hcl:c<s.length:=by omega
  obtain ⟨a0,a1,a2,a3⟩:=yej s c
  obtain ⟨b0,b1,b2,b3⟩:=yej (rnS s o s.length) (nu c)
  rw [sg _ (h.nl c hcl),h.on c hcl] at b1 b3
  obtain ⟨r0,r1,r2,r3⟩:=y9d nu c
  rcases hx4 with rfl|rfl|rfl|rfl
  ·rw [r0,b0,a0]
  ·rw [r1,b1,a1]
  ·rw [r2,b2,a2]
  ·rw [r3,b3,a3]
 ·have hd:Sp.siD x/4=x/4:=Sp.siD_div x
  unfold rnF
  rw [hd]
  unfold Sp.siD
  omega
end
end Go.Proofs.YtjpnnnognoaaiaaDoor
