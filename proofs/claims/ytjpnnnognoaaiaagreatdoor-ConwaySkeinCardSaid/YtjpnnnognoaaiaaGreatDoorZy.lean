/- Layer 12: Term. -/
import Derived.Test.YtjpnnnognoaaiaaGreatDoorZl
import Derived.Test.YtjpnnnognoaaiaaGreatDoorZf
import Derived.Test.YtjpnnnognoaaiaaGreatDoorZx
import Derived.Test.YtjpnnnognoaaiaaGreatDoorZc
import Derived.Test.YtjpnnnognoaaiaaGreatDoorZd
set_option linter.unusedSimpArgs false
set_option linter.unusedVariables false
namespace Go.Proofs.YtjpnnnognoaaiaaGreatDoor
open Go Go.RowKit
set_option maxHeartbeats 8000000
set_option maxRecDepth 100000
theorem y46 (c e:Int) (h0: -1125899906842624<=c/\c<=1125899906842624) (h1: -1048576<=e/\e<=1048576):Fn Tryz.prog 19 [I c,I e] (plA false (trm c e)):=by
 have hw1:=ydr c 1125899906842624 (by omega) (by omega)
 have hw2:=ydr e 1048576 (by omega) (by omega)
 rw [yp1 (by omega) (by omega)] at hw1 hw2
 unfold trm
 by_cases h:c=0
 ·have bz:(c==0)=true:=by simpa using h
  rw [if_pos h]
  refine Fn.introL [.cell 4 34] Tryz.func19 rfl rfl (by decide) (by simp [Tryz.ntmps19]) ?_;rw [Tryz.ntmps19]
  repeat' (first|omega|(try apply yaa);simp only [go_sem,sevalprocAttr,bz]|apply yab<;>(intro h_;(try simp only [h_]);revert h_)|apply And.intro|with_reducible intro h_|trivial|simp only [go_sem,la2];omega)
  all_goals exact LeA.aggL (.cons (LeA.refl _) (.cons (LeA.nils (by omega) rfl) .nil))
 ·have bz:(c==0)=false:=by rw [beq_eq_false_iff_ne];exact h
  rw [if_neg h]
  refine Fn.introL [.cell 4 34] Tryz.func19 rfl rfl (by decide) (by simp [Tryz.ntmps19]) ?_;rw [Tryz.ntmps19]
  repeat' (first|omega|(try apply yaa);simp only [go_sem,sevalprocAttr,bz]|apply yab<;>(intro h_;(try simp only [h_]);revert h_)|apply And.intro|with_reducible intro h_|trivial|simp only [go_sem,la2];omega)
  refine ⟨yad.fn rfl hw1 ?_⟩
  repeat' (first|omega|(try apply yaa);simp only [go_sem,sevalprocAttr]|apply yab<;>(intro h_;(try simp only [h_]);revert h_)|apply And.intro|with_reducible intro h_|trivial|simp only [go_sem,la2];omega)
  refine ⟨yad.fn rfl hw2 ?_⟩
  repeat' (first|omega|(try apply yaa);simp only [go_sem,sevalprocAttr]|apply yab<;>(intro h_;(try simp only [h_]);revert h_)|apply And.intro|with_reducible intro h_|trivial|simp only [go_sem,la2];omega)
  all_goals exact LeA.of rfl
end Go.Proofs.YtjpnnnognoaaiaaGreatDoor
set_option linter.unusedSimpArgs false
set_option linter.unusedVariables false
namespace Go.Proofs.YtjpnnnognoaaiaaGreatDoor
open Go Go.RowKit
set_option maxRecDepth 100000
set_option maxHeartbeats 4000000
def yyj:List (List Nat):=[[17,20,21,22,23],[16,20,21,22,23],[20,21,22,23],[20,21,22,23],[16,17,18,19,21],[16,17,18,19,20],[16,17,18,19],[16,17,18,19],[]]
theorem yq8:eq2 Tryz.prog 62=true:=by decide+kernel
theorem y6s (p:List (Int×Int)) (hl:p.length<=1000000):Fn Tryz.prog 43 [.ro 2 p.length (.lst (tmC p)), .ro 2 p.length (.lst (tmC p))] (.bool true):=by
 have hlen:=yct p
 have b0:((p.length:Int)!=p.length)=false:=by simp
 refine Fn.intro [.tmp 4] Tryz.func43 rfl rfl (by decide) (by simp [Tryz.ntmps43]) ?_;rw [Tryz.ntmps43]
 repeat' (first|omega|(try apply yaa);simp only [go_sem,sevalprocAttr,b0]|apply yab<;>(intro h_;(try simp only [h_]);revert h_)|apply And.intro|with_reducible intro h_|trivial|simp only [go_sem,la2];omega)
 refine ya3.intro (fun n fr H=> ∃k:Nat,k<=p.length/\n=p.length-k/\fr=[(13,I k),(12,I p.length),(1, .ro 2 p.length (.lst (tmC p))),(0, .ro 2 p.length (.lst (tmC p)))]/\H=[]) ?_ ?_
 ·refine ⟨_,_,_,?_,0,by omega,rfl,rfl,rfl⟩
  refine Wk.sub ?_ ?_<;>(simp only [go_sem,sevalprocAttr,yc5])
 rintro n fr H ⟨k,hk,rfl,rfl,rfl⟩
 by_cases hkl:k<p.length
 ·have g0:=yco p k hkl
  have g1:=yem p k hkl
  have b1:((p.getD k (0,0)).1==(p.getD k (0,0)).1)=true:=by simp
  have b2:((p.getD k (0,0)).2==(p.getD k (0,0)).2)=true:=by simp
  repeat' (first|omega|(first|apply yaa|(refine yac.intro (id:=6) yyj [[],[0],[],[],[0,1,2,3],[0,1,2,3,4],[0,1,2,3],[0,1,2,3],[]] (by decide+kernel) mixed ?_)|skip);simp only [go_sem,sevalprocAttr,g0,g1,hlen,b1,b2,yq8,↓reduceIte,reduceCtorEq,yyj]|apply yab<;>(intro h_;(try simp only [h_]);revert h_)|apply And.intro|with_reducible intro h_|trivial|simp only [go_sem,la2];omega)
  all_goals (first|exact yq8|skip)
  refine ⟨_,_,_,?_,?_,⟨k+1,by omega,rfl,rfl,rfl⟩⟩
  ·omega
  ·refine Wk.sub ?_ ?_<;>(simp only [go_sem,sevalprocAttr,yc5])
 ·obtain rfl:k=p.length:=by omega
  repeat' (first|omega|(try apply yaa);simp only [go_sem,sevalprocAttr]|apply yab<;>(intro h_;(try simp only [h_]);revert h_)|apply And.intro|with_reducible intro h_|trivial|simp only [go_sem,la2];omega)
theorem y1d (p:List (Int×Int)) (hl:p.length<=1000000):Fn Tryz.prog 13 [plA false p,plA false p] (.bool true):=by
 have hS:=y6s p hl
 refine Fn.intro [.tmp 4] Tryz.func13 rfl rfl (by decide) (by simp [Tryz.ntmps13]) ?_;rw [Tryz.ntmps13]
 repeat' (first|omega|(try apply yaa);simp only [go_sem,sevalprocAttr,yc5]|apply yab<;>(intro h_;(try simp only [h_]);revert h_)|apply And.intro|with_reducible intro h_|trivial|simp only [go_sem,la2];omega)
 refine ⟨yad.fn rfl hS ?_⟩
 repeat' (first|omega|(try apply yaa);simp only [go_sem,sevalprocAttr]|apply yab<;>(intro h_;(try simp only [h_]);revert h_)|apply And.intro|with_reducible intro h_|trivial|simp only [go_sem,la2];omega)
end Go.Proofs.YtjpnnnognoaaiaaGreatDoor
namespace Go.Proofs.YtjpnnnognoaaiaaGreatDoor
open Go Go.RowKit
set_option maxRecDepth 100000
set_option maxHeartbeats 8000000
set_option linter.unusedVariables false
set_option linter.unusedSimpArgs false
def yyk:List (List Nat):=[[85,87,88,89,90,91,92],[84,87,88,89,90,91,92],[87,88,89,90,91,92],[84,85,86,88,89,90,91,92,93],[84,85,86,87,90],[84,85,86,87,90],[84,85,86,87,88,89],[84,85,86,87],[84,85,86,87],[87],[],[],[]]
def yyl:List (List Nat):=[[],[0],[],[0,1,2],[0,1,2,3],[0,1,2,3],[0,1,2,3,4,5],[0,1,2,3],[0,1,2,3],[3],[],[],[]]
theorem y14 (k:Int): ∀(p:List (Int×Int)) (e:Int),cvL p (cfL [(1,k)]) e=k*cfL p (e-1)
 |[],e=>by simp [cvL,cfL]
 |t::p,e=>by
  have ih:=y14 k p e
  simp only [cvL,cfL] at ih⊢
  rw [ih]
  by_cases h1:t.1=e-1
  ·rw [if_pos (by omega),if_pos h1,Int.add_zero,Int.mul_comm,Int.mul_add]
  ·rw [if_neg (by omega),if_neg h1,Int.zero_add,Int.mul_zero,Int.zero_add,Int.zero_add]
theorem y47 {p:List (Int×Int)} {f:Int->Int} {k:Int} (hk:k=1\/k= -1) (hp:ybv p f) (hs: ∀e,f e≠0->0<=e/\e<=50) (hb: ∀e,-1000000000000<=f e/\f e<=1000000000000):
  ∃r,ybv r (fun e=>k*f (e-1))/\Fn Tryz.prog 18 [plA false p,plA false [(1,k)]] (plA false r):=by
 by_cases hp0:0<p.length
 ·have hq:ybv [(1,k)] (cfL [(1,k)]):=⟨⟨by simp,fun t ht=>by rw [List.mem_singleton] at ht;subst ht;show k≠0;omega⟩,fun _=>rfl⟩
  have g0:=hs _ (hp.mem (ydy (i:=0) hp0)).2
  have g1:=hs _ (hp.mem (ydy (i:=p.length-1) (by omega))).2
  refine y4j hp hq (fun e he=>by have:=hs e he;omega) (fun e he=>?_) (fun e=>by have:=hb e;omega) (fun e=>?_) (h:=fun e=>k*f (e-1)) (fun e=>by rw [y14,show cfL p=f from funext hp.cf]) (fun e=>?_) hp0 (by simp) ?_
  ·simp only [cfL] at he
   by_cases h1:(1:Int)=e
   ·omega
   ·rw [if_neg h1] at he;omega
  ·simp only [cfL]
   split<;>omega
  ·have:=hb (e-1)
   rcases hk with rfl|rfl
   ·rw [Int.one_mul];omega
   ·rw [Int.neg_one_mul];omega
  ·unfold yb6 lowE
   simp only [List.length_singleton,List.getD_cons_zero,Nat.sub_self]
   have h1:(p.getD (p.length-1) (0,0)).1<=50:=g1.2
   have h0:0<=(p.getD 0 (0,0)).1:=g0.1
   have:(0:Int)<=4*(p.length:Int)*1:=by omega
   omega
 ·obtain rfl:p=[]:=List.eq_nil_of_length_eq_zero (by omega)
  refine ⟨[],ybv.nil.congr fun e=>?_,y4h [(1,k)]⟩
  rw [←hp.cf];simp [cfL]
theorem ynd (s m:List Int) (L:Int) (z:Int) (hz:0<=z/\z<=255):Fn Tryz.prog 4 [dgA s m L, .int .u8 z] (.bool true):=by
 have hA:=yuj
 have hG:=yuk s m L
 cases hg:grB s m L with
 |true=>
  rw [hg] at hG
  refine Fn.intro [.tmp 4] Tryz.func4 rfl rfl (by decide) (by simp [Tryz.ntmps4]) ?_;rw [Tryz.ntmps4]
  repeat' (first|omega|(try apply yaa);simp only [go_sem,sevalprocAttr,hA]|(refine ⟨yad.fn (r:=?_) rfl ?_ ?_⟩;rotate_left;assumption)|(refine ⟨ya7.fn (r:=?_) rfl ?_ ?_⟩;rotate_left;assumption)|apply yab<;>(intro h_;(try simp only [h_]);revert h_)|apply And.intro|with_reducible intro h_|trivial|simp only [go_sem,la2];omega)
 |false=>
 rw [hg] at hG
 by_cases h0:s.length=0
 ·have b0:((s.length:Int)==0)=true:=by rw [beq_iff_eq];omega
  refine Fn.intro [.tmp 4] Tryz.func4 rfl rfl (by decide) (by simp [Tryz.ntmps4]) ?_;rw [Tryz.ntmps4]
  repeat' (first|omega|(try apply yaa);simp only [go_sem,sevalprocAttr,b0]|(refine ⟨yad.fn (r:=?_) rfl ?_ ?_⟩;rotate_left;assumption)|(refine ⟨ya7.fn (r:=?_) rfl ?_ ?_⟩;rotate_left;assumption)|apply yab<;>(intro h_;(try simp only [h_]);revert h_)|apply And.intro|with_reducible intro h_|trivial|simp only [go_sem,la2];omega)
 have b0:((s.length:Int)==0)=false:=by rw [beq_eq_false_iff_ne];omega
 have hV:=yda s m L
 cases hv:yak s m L with
 |false=>
  rw [hv] at hV
  refine Fn.intro [.tmp 4] Tryz.func4 rfl rfl (by decide) (by simp [Tryz.ntmps4]) ?_;rw [Tryz.ntmps4]
  repeat' (first|omega|(try apply yaa);simp only [go_sem,sevalprocAttr,b0]|(refine ⟨yad.fn (r:=?_) rfl ?_ ?_⟩;rotate_left;assumption)|(refine ⟨ya7.fn (r:=?_) rfl ?_ ?_⟩;rotate_left;assumption)|apply yab<;>(intro h_;(try simp only [h_]);revert h_)|apply And.intro|with_reducible intro h_|trivial|simp only [go_sem,la2];omega)
 |true=>
 rw [hv] at hV
 have v1:=yaz hv
 have hl0:=v1.l0
 have hl1:=v1.l64
 have h64:=v1.s64
 have hml:=v1.len
 simp only [grB,Bool.or_eq_false_iff,Bool.and_eq_false_iff,decide_eq_false_iff_not] at hg
 have hL:L<=10:=by omega
 have hn15:s.length<=15:=by omega
 obtain ⟨l,rfl⟩: ∃l:Nat,L=l:=⟨L.toNat,by omega⟩
 obtain ⟨c,hc⟩: ∃c:Nat,z.tmod s.length=c:=⟨(z % s.length).toNat,by rw [Int.tmod_eq_emod_of_nonneg hz.1];have:=Int.emod_nonneg z (show (s.length:Int)≠0 by omega);omega⟩
 have hcl:c<s.length:=by
  rw [Int.tmod_eq_emod_of_nonneg hz.1] at hc
  have:=Int.emod_lt_of_pos z (show (0:Int)<s.length by omega);omega
 have w1:IntKind.i64.wrap z=z:=IntWalk.i64_in _ (by omega)
 have hvx:=Sp.valid_switch hv hcl
 have hxl:(swS s c).length=s.length:=Sp.swS_len
 have hsr:=Sp.smL_rng (m:=m) (b:=(s.getD c 0== -1)) (c:=c) (n:=s.length)
 have hlp:smLp s m c l=l+smL m (s.getD c 0== -1) c s.length:=rfl
 obtain ⟨l',hl'⟩: ∃l':Nat,smLp s m c l=l':=⟨(smLp s m c l).toNat,by omega⟩
 obtain ⟨hvy,hyl⟩:=Sp.valid_smooth hv hcl (by omega)
 have hsk:=y1c hv hcl hvy
 rw [hl'] at hvy hsk
 have hney: ¬((smS s c).length=0/\l'=0):=by
  rintro ⟨e1,e2⟩
  rw [hyl] at e1
  obtain rfl:c=0:=by omega
  have:=Sp.smL_one (m:=m) (b:=(s.getD 0 0== -1))
  rw [show s.length=1 by omega] at hlp
  omega
 have hSw:=ynw s m l c (by omega) (by omega) hv
 rw [show exS s (· ==(c:Int))=swS s c from rfl,show exM s m (· ==(c:Int))=swM s m c from rfl] at hSw
 have hSm:=ynx s m l c hcl (by omega) hv _ rfl
 rw [show woS s c s.length=smS s c from rfl,show woM (smE m (s.getD c 0== -1) c (4*s.length)) c s.length=smM s m c from rfl,show (l:Int)+smL m (s.getD c 0== -1) c s.length=(l':Int) from hl'] at hSm
 obtain ⟨R,r1,r2,r3,r4⟩:=yli hvy (by omega) (by omega) hney
 have hb1:decide (0<=(c:Int))=true:=by simp
 have hb2:decide ((c:Int)<s.length)=true:=by rw [decide_eq_true_iff];omega
 by_cases hF:14<s.length
 ·have hP:=ypv s m l hv hF
  have hX:=ypv (swS s c) (swM s m c) l hvx (by omega)
  clear hsk hvx hxl hlp hl' hvy hyl r1 r3 r4 hney
  generalize swS s c=sx at*
  generalize swM s m c=mx at*
  generalize smS s c=sy at*
  generalize smM s m c=my at*
  refine Fn.intro [.tmp 4] Tryz.func4 rfl rfl (by decide) (by simp [Tryz.ntmps4]) ?_;rw [Tryz.ntmps4]
  repeat' (first|omega|(try apply yaa);simp only [go_sem,sevalprocAttr,b0,w1,hc,hb1,hb2]|(refine ⟨yad.fn (r:=?_) rfl ?_ ?_⟩;rotate_left;assumption)|(refine ⟨ya7.fn (r:=?_) rfl ?_ ?_⟩;rotate_left;assumption)|apply yab<;>(intro h_;(try simp only [h_]);revert h_)|apply And.intro|with_reducible intro h_|trivial|simp only [go_sem,la2];omega)
 obtain ⟨P,p1,p2,p3,p4⟩:=yli hv (by omega) (by omega) (by omega)
 obtain ⟨Q,q1,q2,q3,q4⟩:=yli hvx (by omega) (by omega) (by omega)
 obtain ⟨A,a1,a2⟩:=y6r p1 q1 (fun e he=>by have:=p3 e he;omega) (fun e he=>by have:=q3 e he;omega) (fun e=>by have:=p4 e;omega) (fun e=>by have:=q4 e;omega)
 have hsg:=v1.sg c hcl
 obtain ⟨B,b1,b2⟩:=y47 hsg r1 (fun e he=>by have:=r3 e he;omega) r4
 have hAB:A=B:=AscN.ext a1.asc b1.asc fun e=>by rw [a1.cf,b1.cf];exact hsk e
 subst hAB
 have hAl:A.length<=1000000:=by
  have:=a1.len (fun e he=>?_)
  ·omega
  ·have:=p3 e
   have:=q3 e
   by_cases h:cwF s m l e=0
   ·by_cases h':cwF (swS s c) (swM s m c) l e=0
    ·rw [h,h'] at he;exact absurd rfl he
    ·have:=q3 e h';omega
   ·have:=p3 e h;omega
 have hE:=y1d A hAl
 have hT:=y46 (s.getD c 0) 1 (by omega) (by omega)
 have ht:trm (s.getD c 0) 1=[(1,s.getD c 0)]:=by unfold trm;rw [if_neg (by omega)]
 rw [ht] at hT
 clear hsk hvx hxl hlp hl' hvy hyl r1 r3 r4 hney p1 p3 p4 q1 q3 q4 a1 b1 ht
 generalize hsc:s.getD c 0=sc at*
 generalize swS s c=sx at*
 generalize swM s m c=mx at*
 generalize smS s c=sy at*
 generalize smM s m c=my at*
 refine Fn.intro [.tmp 4] Tryz.func4 rfl rfl (by decide) (by simp [Tryz.ntmps4]) ?_;rw [Tryz.ntmps4]
 repeat' (first|omega|(try apply yaa);simp only [go_sem,sevalprocAttr,b0,w1,hc,hb1,hb2]|(refine ⟨yad.fn (r:=?_) rfl ?_ ?_⟩;rotate_left;assumption)|(refine ⟨ya7.fn (r:=?_) rfl ?_ ?_⟩;rotate_left;assumption)|apply yab<;>(intro h_;(try simp only [h_]);revert h_)|apply And.intro|with_reducible intro h_|trivial|simp only [go_sem,la2];omega)
 repeat' (first|omega|(first|apply yaa|(refine yac.intro (id:=15) yyk yyl (by decide+kernel) mixed ?_)|skip);simp only [go_sem,sevalprocAttr,hsc,hb1,hb2,↓reduceIte,reduceCtorEq,yyk,yyl]|(refine ⟨yad.fn (r:=?_) rfl ?_ ?_⟩;rotate_left;assumption)|(refine ⟨ya7.fn (r:=?_) rfl ?_ ?_⟩;rotate_left;assumption)|apply yab<;>(intro h_;(try simp only [h_]);revert h_)|apply And.intro|with_reducible intro h_|trivial|simp only [go_sem,la2];omega)
end Go.Proofs.YtjpnnnognoaaiaaGreatDoor
