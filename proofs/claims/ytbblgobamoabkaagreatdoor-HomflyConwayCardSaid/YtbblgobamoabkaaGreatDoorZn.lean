/- Plain: the HOMFLY polynomial in one exponent: bounds, the step of the resolution, the circles. -/
import Derived.Test.YtbblgobamoabkaaGreatDoorZm
import Derived.Test.YtbblgobamoabkaaGreatDoorZi
import Derived.Test.YtbblgobamoabkaaGreatDoorZj
import Derived.Test.YtbblgobamoabkaaGreatDoorZa
import Derived.Test.YtbblgobamoabkaaGreatDoorPl
namespace Go.Proofs.YtbblgobamoabkaaGreatDoor
set_option linter.unusedSimpArgs false
set_option linter.unusedVariables false
namespace Hs
def XE (k:Nat) (e:Int):Int:=Xh (bvA e) (bvZ e) 0 0 k
theorem XE_sup (k:Nat):SupB (XE k) (k+1):=fun e he=>by
 unfold XE Xh at he
 by_cases hb:bvZ e=0-((k:Int)-1)
 ·rw [if_pos hb] at he
  have:=dN_sup _ _ he
  omega
 ·rw [if_neg hb] at he;exact absurd rfl he
theorem XE_bnd (k:Nat) (e:Int): -(2^k:Int)<=XE k e/\XE k e<=2^k:=by
 unfold XE Xh
 have h1:=dN_bnd (k-1) (bvA e-0)
 have h2:((2^(k-1):Nat):Int)<=((2^k:Nat):Int):=Int.ofNat_le.2 (Nat.pow_le_pow_right (by decide) (Nat.sub_le k 1))
 rw [Int.natCast_pow,Int.natCast_pow] at h2
 have h3:(0:Int)<=2^(k-1):=Int.pow_nonneg (by decide)
 have h4:(0:Int)<=2^k:=Int.le_trans h3 h2
 split
 ·exact ⟨Int.le_trans (Int.neg_le_neg h2) h1.1,Int.le_trans h1.2 h2⟩
 ·exact ⟨Int.neg_nonpos_of_nonneg h4,h4⟩
theorem XE_1:yai [(0,1)] (XE 1):=by
 have b0:bvA 0=0/\bvZ 0=0:=by decide
 refine ⟨⟨by simp,fun t ht=>by simp only [List.mem_singleton] at ht;subst ht;decide⟩,fun e=>?_⟩
 unfold XE
 rw [Xh_1]
 simp only [cfL,Int.add_zero]
 by_cases h:e=0
 ·subst h;rw [if_pos rfl,if_pos b0]
 ·rw [if_neg (fun h'=>h h'.symm),if_neg fun h'=>h ?_]
  have:=ycj e
  rw [h'.1,h'.2] at this
  rw [←this];decide
theorem yyi {n:Nat} (hn:n<=1000) {e e':Int} (h: -1048576<=bvZ e'/\bvZ e'<=1048576):XE n (e-e')=Xh (bvA e-bvA e') (bvZ e-bvZ e') 0 0 n:=by
 have e1:e-e'=bvE (bvA e-bvA e') (bvZ e-bvZ e'):=by
  have h1:=ycj e
  have h2:=ycj e'
  unfold bvE at*
  omega
 unfold XE
 by_cases hz: -8388608<=bvZ e-bvZ e'/\bvZ e-bvZ e'<8388608
 ·rw [e1,yee hz,ycx hz]
 ·have b1:=yjs e
  have k:bvZ (e-e')=bvZ e-bvZ e'-16777216\/bvZ (e-e')=bvZ e-bvZ e'+16777216:=by
   unfold bvZ at*
   omega
  unfold Xh
  rw [if_neg (by omega),if_neg (by omega)]
theorem XE_S (n:Nat) (hn:n<=900) (e:Int):XE (n+1+1) e=XE (n+1) (e-bvE (-1) (-1))-XE (n+1) (e-bvE 1 (-1)):=by
 rw [yyi (by omega) (by rw [ycx (by omega)];omega),yyi (by omega) (by rw [ycx (by omega)];omega)]
 rw [yee (by omega),ycx (by omega),yee (by omega),ycx (by omega)]
 unfold XE
 rw [y8o]
 unfold Dl
 rw [show bvA e- -1=bvA e+1 by omega,show bvZ e- -1=bvZ e+1 by omega]
section
variable {s m:List Int} {l:Nat}
end
end Hs
end Go.Proofs.YtbblgobamoabkaaGreatDoor
namespace Go.Proofs.YtbblgobamoabkaaGreatDoor
open Go Go.RowKit
set_option maxRecDepth 100000
set_option maxHeartbeats 8000000
set_option linter.unusedVariables false
set_option linter.unusedSimpArgs false
theorem yyj {e c:Int} (hc:c≠0):yai [(e,c)] (cfL [(e,c)]):=⟨⟨by simp,fun t ht=>by simp only [List.mem_singleton] at ht;subst ht;exact hc⟩,fun _=>rfl⟩
def facU:Int:=bvE (-1) (-1)
def facV:Int:=bvE 1 (-1)
abbrev facL:List (Int×Int):=[(facU,1),(facV,-1)]
theorem yte:yai facL (cfL facL):=⟨⟨by decide,by decide⟩,fun _=>rfl⟩
theorem yqp {e c:Int}: ∀x,cfL [(e,c)] x≠0->x=e:=fun x h=>by
 simp only [cfL,Int.add_zero] at h
 by_cases he:e=x
 ·exact he.symm
 ·rw [if_neg he] at h;exact absurd rfl h
theorem y1z:SupB (cfL facL) 1:=fun e he=>by
 simp only [cfL,Int.add_zero] at he
 by_cases h1:facU=e
 ·subst h1;decide
 ·rw [if_neg h1] at he
  by_cases h2:facV=e
  ·subst h2;decide
  ·rw [if_neg h2] at he;exact absurd rfl he
theorem y10 (e:Int): -1<=cfL facL e/\cfL facL e<=1:=by
 simp only [cfL,Int.add_zero]
 by_cases h1:facU=e
 ·rw [if_pos h1,if_neg (by rw [←h1];decide)];omega
 ·rw [if_neg h1];split<;>omega
theorem yyk:Fn Tryz.prog 31 [bvP false [(facU,1)],bvP false [(facV,1)]] (bvP false facL):=by
 refine ysz (N:=1) (yyj (by decide)) (yyj (by decide)) (fun e he=>?_) (fun e he=>?_) (by decide) (fun e=>?_) (fun e=>?_) ⟨yte.asc,fun e=>?_⟩ (fun e=>?_)
 ·rw [yqp e he];decide
 ·rw [yqp e he];decide
 ·simp only [cfL];split<;>omega
 ·simp only [cfL];split<;>omega
 ·simp only [cfL];split<;>split<;>omega
 ·simp only [cfL];split<;>split<;>omega
theorem y5f {p:List (Int×Int)} {f:Int->Int} (hp:yai p f) (e:Int):cvL p (cfL facL) e=f (e-facU)-f (e-facV):=by
 rw [ysx,hp.cf,hp.cf];omega
theorem yqq {k:Nat} (hk:k<=45) (e:Int): -35184372088832<=Hs.XE k e/\Hs.XE k e<=35184372088832:=by
 have h1:=Hs.XE_bnd k e
 have h2:((2^k:Nat):Int)<=((2^45:Nat):Int):=Int.ofNat_le.2 (Nat.pow_le_pow_right (by decide) hk)
 rw [Int.natCast_pow,Int.natCast_pow] at h2
 have h3:((2:Nat):Int)^45=35184372088832:=by decide
 rw [h3] at h2
 have h4:((2:Nat):Int)^k=2^k:=rfl
 rw [h4] at h2
 generalize (2:Int)^k=y at*
 omega
theorem yyl: ∀n:Nat,Hs.dN n (-(n:Int))=1
 |0=>rfl
 |n+1=>by
  unfold Hs.dN
  have h1:=yyl n
  have h2:Hs.dN n (-((n+1:Nat):Int)-1)=0:=Classical.byContradiction fun h=>by
   have:=Hs.dN_sup n _ h
   omega
  rw [h2,show-((n+1:Nat):Int)+1= -(n:Int) by omega,h1];rfl
theorem y8p {n:Nat} (hn:n<=900) {q:List (Int×Int)} (hq:yai q (Hs.XE (n+1))):q≠[]:=fun h=>by
 have h1:=hq.cf (bvE (-(n:Int)) (-(n:Int)))
 rw [h] at h1
 unfold Hs.XE Hs.Xh at h1
 rw [yee (by omega),ycx (by omega),if_pos (by omega),Nat.add_sub_cancel,Int.sub_zero,yyl] at h1
 simp [cfL] at h1
theorem yvc (k:Nat) (hk:1<=k/\k<=45) {p:List (Int×Int)} (hp:yai p (Hs.XE k)):Fn Tryz.prog 33 [I k] (bvP false p):=by
 have t1:=yk2 1 (-1) (-1) (by decide) (by decide) (by decide) (by decide)
 have t2:=yk2 1 1 (-1) (by decide) (by decide) (by decide) (by decide)
 have t3:=yk2 1 0 0 (by decide) (by decide) (by decide) (by decide)
 have hF:=yyk
 rw [show bvE (-1) (-1)=facU from rfl] at t1
 rw [show bvE 1 (-1)=facV from rfl] at t2
 rw [show bvE 0 0=0 from rfl] at t3
 refine Fn.introL [.cell 2 29] Tryz.func33 rfl rfl (by decide) (by simp [Tryz.ntmps33]) ?_;rw [Tryz.ntmps33]
 repeat' (first|omega|(try apply yaa);simp only [go_sem,sevalprocAttr,yak]|(refine ⟨yad.fn (r:=?_) rfl ?_ ?_⟩;rotate_left;assumption)|(refine ⟨yag.fn (r:=?_) rfl ?_ ?_⟩;rotate_left;assumption)|apply yab<;>(intro h_;(try simp only [h_]);revert h_)|apply And.intro|with_reducible intro h_|trivial|simp only [go_sem,la2];omega)
 refine yal.intro (fun n fr H=> ∃(i:Nat) (q:List (Int×Int)),i+1<=k/\n=k-i/\yai q (Hs.XE (i+1))/\fr=[(11,I i),(10,I ((k:Int)-1)),(4, .ptr 2 0),(3, .ptr 1 0),(2, .ptr 0 0)]/\H=[(2, .cells 29 (.lst [.bool false,bvT q])),(1, .cells 29 (.lst [.bool false,bvT facL])),(0,gaB)]) ?_ ?_
 ·refine ⟨_,_,_,Wk.sub ?_ ?_,0,[(0,1)],by omega,rfl,Hs.XE_1,rfl,rfl⟩
  ·simp only [go_sem,sevalprocAttr,yak]
  ·simp only [go_sem,sevalprocAttr,yak]
 rintro n fr H ⟨i,q,hi,rfl,hq,rfl,rfl⟩
 by_cases hil:i+1<k
 ·have bi:decide ((i:Int)<(k:Int)-1)=true:=by simp;omega
  have e2: ∀e,cvL q (cfL facL) e=Hs.XE (i+1+1) e:=fun e=>by rw [y5f hq,Hs.XE_S i (by omega)];rfl
  obtain ⟨q',hq'⟩:=yby (Hs.XE_sup (i+1+1)) (by omega)
  have hM:=y47 (p:=q) (q:=facL) (r:=q') (N:=50) (A:=35184372088832) (B:=1) hq yte (y8p (by omega) hq) (by decide) ((Hs.XE_sup (i+1)).mono (by omega)) (y1z.mono (by decide)) (by decide) (yqq (by omega)) y10 (by decide) (by decide) (by decide) (hq'.congr fun e=>(e2 e).symm) (fun e=>by dsimp only;rw [e2];have:=yqq (k:=i+1+1) (by omega) e;omega) (fun e he=>by dsimp only at he;rw [e2] at he;have:=Hs.XE_sup (i+1+1) e he;omega)
  repeat' (first|omega|(try apply yaa);simp only [go_sem,sevalprocAttr,bi,yak]|(refine ⟨yad.fn (r:=?_) rfl ?_ ?_⟩;rotate_left;assumption)|(refine ⟨yag.fn (r:=?_) rfl ?_ ?_⟩;rotate_left;assumption)|apply yab<;>(intro h_;(try simp only [h_]);revert h_)|apply And.intro|with_reducible intro h_|trivial|simp only [go_sem,la2];omega)
  refine ⟨_,_,_,?_,Wk.sub ?_ ?_,i+1,q',by omega,rfl,hq',rfl,rfl⟩
  ·omega
  ·simp only [go_sem,sevalprocAttr,yak]
  ·simp only [go_sem,sevalprocAttr,yak]
 ·obtain rfl:k=i+1:=by omega
  have bi:decide ((i:Int)<((i+1:Nat):Int)-1)=false:=by simp
  obtain rfl:q=p:=hq.uniq hp
  repeat' (first|omega|(try apply yaa);simp only [go_sem,sevalprocAttr,bi,yak]|apply yab<;>(intro h_;(try simp only [h_]);revert h_)|apply And.intro|with_reducible intro h_|trivial|simp only [go_sem,la2];omega)
  all_goals exact LeA.refl _
end Go.Proofs.YtbblgobamoabkaaGreatDoor
namespace Go.Proofs.YtbblgobamoabkaaGreatDoor
open Sp
set_option linter.unusedSimpArgs false
set_option linter.unusedVariables false
structure ybd (s m:List Int) (l:Nat):Prop where
 val:yap s m l=true
 len:3*s.length+l<=36
 n14:s.length<=9
 pos:0<s.length\/0<l
theorem ye7 {motive:List Int->List Int->Nat->Prop} (desc: ∀s m l,ybd s m l->badO s m=none->motive s m l)
  (step: ∀(s m:List Int) (l c l':Nat),ybd s m l->badO s m=some (c:Int)->c<s.length->(s.getD c 0=1\/s.getD c 0= -1)->smLp s m c l=l'->ybd (swS s c) (swM s m c) l->(swS s c).length=s.length->ybd (smS s c) (smM s m c) l'->(smS s c).length+1=s.length->motive (swS s c) (swM s m c) l->motive (smS s c) (smM s m c) l'->motive s m l):
  ∀s m l,ybd s m l->motive s m l:=by
 have key: ∀(f:Nat) (s m:List Int) (l:Nat),ybd s m l->s.length*s.length+bc s m+1<=f->motive s m l:=by
  intro f
  induction f with
  |zero=>intro s m l _ h;omega
  |succ f ih=>
   intro s m l h hf
   have v:=yas h.val
   have hbl:=bc_le v
   have hn:=h.n14
   have hl:=h.len
   cases hb:badO s m with
   |none=>exact desc s m l h hb
   |some c=>
    have hcr:=yh7 v.prd hb
    obtain ⟨c,rfl⟩: ∃d:Nat,c=d:=⟨c.toNat,by omega⟩
    have hc:c<s.length:=by omega
    have hsm:=yep (m:=m) (b:=(s.getD c 0== -1)) (c:=c) (n:=s.length)
    have hlp:smLp s m c l=l+smL m (s.getD c 0== -1) c s.length:=rfl
    obtain ⟨v2,l2⟩:=ygp h.val hc (by omega)
    have v1:=yi5 h.val hc
    have hbs:=yva h.val hc hb
    have hb2:=bc_le (yas v2)
    obtain ⟨d,hd⟩: ∃d,s.length=d+1:=⟨s.length-1,by omega⟩
    have hsq:s.length*s.length=d*d+2*d+1:=by rw [hd,Nat.add_mul,Nat.mul_add];omega
    obtain ⟨l',hl'⟩: ∃l':Nat,smLp s m c l=l':=⟨(smLp s m c l).toNat,by omega⟩
    have h1:ybd (swS s c) (swM s m c) l:=⟨v1,by rw [ycf];omega,by rw [ycf];omega,by rw [ycf];exact h.pos⟩
    have h2:ybd (smS s c) (smM s m c) l':=⟨by rw [←hl'];exact v2,by rw [l2];omega,by rw [l2];omega,by
     rw [l2]
     by_cases h1:0<s.length-1
     ·exact .inl h1
     ·have hl1:s.length=1:=by omega
      obtain rfl:c=0:=by omega
      have:=ytb (m:=m) (b:=(s.getD 0 0== -1))
      rw [hl1] at hlp
      right;omega⟩
    exact step s m l c l' h hb hc (v.sg c hc) hl' h1 (ycf ..) h2 (by rw [l2];omega) (ih _ _ _ h1 (by rw [ycf];omega)) (ih _ _ _ h2 (by rw [l2,hd,Nat.add_sub_cancel];rw [l2] at hb2;omega))
 exact fun s m l h=>key _ s m l h (Nat.le_refl _)
end Go.Proofs.YtbblgobamoabkaaGreatDoor
namespace Go.Proofs.YtbblgobamoabkaaGreatDoor
open Sp
set_option linter.unusedSimpArgs false
set_option linter.unusedVariables false
structure HomV (W M:Nat) (F:List Int->List Int->Nat->Int->Int):Prop where
 sup: ∀{s m:List Int} {l:Nat},ybd s m l->s.length<=W/\3*s.length+l<=M->SupB (F s m l) 140
 bnd: ∀{s m:List Int} {l:Nat},ybd s m l->s.length<=W/\3*s.length+l<=M->BndB (F s m l)
 desc: ∀{s m:List Int} {l:Nat},ybd s m l->s.length<=W/\3*s.length+l<=M->badO s m=none-> ∀e,F s m l e=Hs.XE (l+(yaj s m).length) e
 step: ∀{s m:List Int} {l c l':Nat},ybd s m l->s.length<=W/\3*s.length+l<=M->badO s m=some (c:Int)->c<s.length->smLp s m c l=l'->ybd (swS s c) (swM s m c) l->ybd (smS s c) (smM s m c) l'->
  ∀e,F s m l e=F (swS s c) (swM s m c) l (e-bvE (2*s.getD c 0) 0)+s.getD c 0*F (smS s c) (smM s m c) l' (e-bvE (s.getD c 0) 1)
theorem y65 {W M:Nat} {s m:List Int} {l c l':Nat} (h:ybd s m l) (hM:s.length<=W/\3*s.length+l<=M) (hc:c<s.length) (hl':smLp s m c l=l') (e1:(swS s c).length=s.length) (e2:(smS s c).length+1=s.length):((swS s c).length<=W/\3*(swS s c).length+l<=M)/\(smS s c).length<=W/\3*(smS s c).length+l'<=M:=by
 have hsm:=yep (m:=m) (b:=(s.getD c 0== -1)) (c:=c) (n:=s.length)
 have hlp:smLp s m c l=l+smL m (s.getD c 0== -1) c s.length:=rfl
 omega
end Go.Proofs.YtbblgobamoabkaaGreatDoor
set_option linter.unusedSimpArgs false
set_option linter.unusedVariables false
namespace Go.Proofs.YtbblgobamoabkaaGreatDoor
open Go Go.RowKit
set_option maxRecDepth 100000
theorem yng (h b:Int) (h0:0<=h) (h1:h<=100000):Fn Tryz.prog 106 [I h,I b] (I (ya1 h b)):=y4t h b h0 h1
theorem yqr (s m:List Int) (L:Int) (hs:s.length<=1000) (hm:yci m s.length):Fn Tryz.prog 66 [dgA s m L] (.bool (sphM m s.length)):=by
 obtain ⟨p1,p2,p3,p4⟩:=yiv hm
 have hml:=hm.1
 refine Fn.intro [.tmp 2] Tryz.func66 rfl rfl (by decide) (by simp [Tryz.ntmps66]) ?_;rw [Tryz.ntmps66]
 repeat' (first|omega|(try apply yaa);simp only [go_sem,sevalprocAttr]|apply yab<;>(intro h_;(try simp only [h_]);revert h_)|apply And.intro|with_reducible intro h_|trivial|simp only [go_sem,la2];omega)
 refine ⟨yad.fn rfl (y1f s m L hs hm) ?_⟩
 repeat' (first|omega|(try apply yaa);simp only [go_sem,sevalprocAttr]|apply yab<;>(intro h_;(try simp only [h_]);revert h_)|apply And.intro|with_reducible intro h_|trivial|simp only [go_sem,la2];omega)
 generalize hpt:(yax m s.length).1=part at*
 generalize hnp:(yax m s.length).2=np at*
 refine yal.intro (fun n fr H=> ∃k:Nat,k<=part.length/\n=part.length-k/\fr=[(22,I k),(21,I part.length),(20,roI part),(5, .sl 1 1 0 np.toNat),(3,roI part),(1, .ptr 0 0)]/\H=[(1, .cells 3 (.ints (decs part np.toNat k))),(0, .cells 24 (.lst [roI s,roI m,I L]))]) ?_ ?_
 ·refine ⟨_,_,_,?_,0,by omega,rfl,rfl,rfl⟩
  refine Wk.sub ?_ ?_<;>simp only [go_sem,sevalprocAttr]
  simp [decs]
 rintro n fr H ⟨k,hk,rfl,rfl,rfl⟩
 obtain ⟨d1,d2⟩:=yjl part np.toNat k
 by_cases hkl:k<part.length
 ·have q4:=p4 k (by omega)
  have d3:=d2 (part.getD k 0).toNat
  repeat' (first|omega|(try apply yaa);simp only [go_sem,sevalprocAttr]|apply yab<;>(intro h_;(try simp only [h_]);revert h_)|apply And.intro|with_reducible intro h_|trivial|simp only [go_sem,la2];omega)
  refine ⟨_,_,_,?_,?_,⟨k+1,by omega,rfl,rfl,rfl⟩⟩
  ·omega
  ·refine Wk.sub ?_ ?_<;>simp only [go_sem,sevalprocAttr]
   rfl
 obtain rfl:k=part.length:=by omega
 repeat' (first|omega|(try apply yaa);simp only [go_sem,sevalprocAttr]|apply yab<;>(intro h_;(try simp only [h_]);revert h_)|apply And.intro|with_reducible intro h_|trivial|simp only [go_sem,la2];omega)
 refine yal.intro (fun n fr H=> ∃h:Nat,h<=m.length/\n=m.length-h/\fr=[(40,I h),(39,I m.length),(8, .sl 1 2 0 m.length),(5, .sl 1 1 0 np.toNat),(3,roI part),(1, .ptr 0 0)]/\H=[(2, .cells 4 (.bools (sphN m part np.toNat h).2)),(1, .cells 3 (.ints (sphN m part np.toNat h).1)),(0, .cells 24 (.lst [roI s,roI m,I L]))]) ?_ ?_
 ·refine ⟨_,_,_,?_,0,by omega,rfl,rfl,rfl⟩
  refine Wk.sub ?_ ?_<;>simp only [go_sem,sevalprocAttr]
  all_goals simp [sphN]
 rintro n fr H ⟨h,hh,rfl,rfl,rfl⟩
 obtain ⟨e1,e2,e3⟩:=yf1 m part np.toNat h
 by_cases hhl:h<m.length
 ·have q4:=p4 (h/4) (by omega)
  have e4:=e3 (part.getD (h/4) 0).toNat
  have e5:(h:Int).tdiv 4=(h/4:Nat):=by rw [ycc (by omega)];omega
  have e6:((h:Int).toNat)=h:=by omega
  repeat' (first|omega|(try apply yaa);simp only [go_sem,sevalprocAttr,e5]|apply yab<;>(intro h_;(try simp only [h_]);revert h_)|apply And.intro|with_reducible intro h_|trivial|simp only [go_sem,la2];omega)
  ·have eS:sphN m part np.toNat (h+1)=sphN m part np.toNat h:=by
    simp only [sphN,sph1];rw [if_pos (by assumption)]
   refine ⟨_,_,_,?_,?_,⟨h+1,by omega,rfl,rfl,rfl⟩⟩
   ·omega
   ·refine Wk.sub ?_ ?_<;>(rw [eS];simp only [go_sem,sevalprocAttr])
  ·have hf:(sphN m part np.toNat h).2.getD h false=false:=by assumption
   have eS:sphN m part np.toNat (h+1)=((sphN m part np.toNat h).1.set (part.getD (h/4) 0).toNat ((sphN m part np.toNat h).1.getD (part.getD (h/4) 0).toNat 0+1),mark m (m.length+1) (sphN m part np.toNat h).2 h):=by
    simp only [sphN,sph1];rw [if_neg (nbt hf)]
   have hu:=y6t (sphN m part np.toNat h).2
   generalize (sphN m part np.toNat h).2=seen0 at*
   generalize (sphN m part np.toNat h).1.set (part.getD (h/4) 0).toNat ((sphN m part np.toNat h).1.getD (part.getD (h/4) 0).toNat 0+1)=exc at*
   refine yal.intro (fun f fr H=> ∃(seen:List Bool) (g:Int),unm seen<f/\seen.length=m.length/\0<=g/\g<4*s.length/\mark m f seen g=mark m (m.length+1) seen0 h/\
    fr=[(10,I g),(40,I h),(39,I m.length),(8, .sl 1 2 0 m.length),(5, .sl 1 1 0 np.toNat),(3,roI part),(1, .ptr 0 0)]/\H=[(2, .cells 4 (.bools seen)),(1, .cells 3 (.ints exc)),(0, .cells 24 (.lst [roI s,roI m,I L]))]) ?_ ?_
   ·refine ⟨m.length+1,_,_,?_,seen0,h,by omega,e2,by omega,by omega,rfl,rfl,rfl⟩
    refine Wk.sub ?_ ?_<;>simp only [go_sem,sevalprocAttr]
   rintro f fr H ⟨seen,g,hf1,hf2,hg0,hg1,hmk,rfl,rfl⟩
   obtain ⟨f',rfl⟩: ∃f',f=f'+1:=⟨f-1,by omega⟩
   have hmr:=hm.2 g.toNat (by omega)
   repeat' (first|omega|(try apply yaa);simp only [go_sem,sevalprocAttr]|apply yab<;>(intro h_;(try simp only [h_]);revert h_)|apply And.intro|with_reducible intro h_|trivial|simp only [go_sem,la2];omega)
   ·refine ⟨yad.fn rfl (yng _ _ hmr.1 (by omega)) ?_⟩
    repeat' (first|omega|(try apply yaa);simp only [go_sem,sevalprocAttr]|apply yab<;>(intro h_;(try simp only [h_]);revert h_)|apply And.intro|with_reducible intro h_|trivial|simp only [go_sem,la2];omega)
    have hsg:seen.getD g.toNat false=false:=by assumption
    have hus:=ysc (l:=seen) (i:=g.toNat) (by omega) hsg
    have htr:=yd3 (b:= -1) hmr.1 hmr.2
    refine ⟨f',_,_,?_,?_,⟨seen.set g.toNat true,ya1 (m.getD g.toNat 0) (-1),by omega,by simp [hf2],htr.1,htr.2,?_,rfl,rfl⟩⟩
    ·omega
    ·refine Wk.sub ?_ ?_<;>simp only [go_sem,sevalprocAttr]
    ·rw [←hmk];simp only [mark];rw [if_neg (nbt hsg)]
   ·have hsg:seen.getD g.toNat false=true:=by assumption
    have hmk2:seen=mark m (m.length+1) seen0 h:=by rw [←hmk];simp only [mark];rw [if_pos hsg]
    refine ⟨_,_,_,?_,?_,⟨h+1,by omega,rfl,rfl,rfl⟩⟩
    ·omega
    ·refine Wk.sub ?_ ?_<;>(rw [eS];simp only [go_sem,sevalprocAttr])
     exact hmk2
 obtain rfl:h=m.length:=by omega
 repeat' (first|omega|(try apply yaa);simp only [go_sem,sevalprocAttr]|apply yab<;>(intro h_;(try simp only [h_]);revert h_)|apply And.intro|with_reducible intro h_|trivial|simp only [go_sem,la2];omega)
 refine yal.intro (fun n fr H=> ∃k:Nat,k<=np.toNat/\n=np.toNat-k/\(∀i,i<k->(sphN m part np.toNat m.length).1.getD i 0=2)/\fr=[(75,I k),(74,I np.toNat),(73, .sl 1 1 0 np.toNat)]/\H=[(1, .cells 3 (.ints (sphN m part np.toNat m.length).1))]) ?_ ?_
 ·refine ⟨_,_,_,?_,0,by omega,rfl,by omega,rfl,rfl⟩
  refine Wk.sub ?_ ?_<;>simp only [go_sem,sevalprocAttr]
 rintro n fr H ⟨k,hk,rfl,hall,rfl,rfl⟩
 repeat' (first|omega|(try apply yaa);simp only [go_sem,sevalprocAttr]|apply yab<;>(intro h_;(try simp only [h_]);revert h_)|apply And.intro|with_reducible intro h_|trivial|simp only [go_sem,la2];omega)
 ·unfold sphM
  rw [hpt,hnp]
  exact (yuw (k:=k) (by rw [(yf1 m part np.toNat m.length).1];omega) (by assumption)).symm
 ·refine ⟨_,_,_,?_,?_,⟨k+1,by omega,rfl,fun i hi=>?_,rfl,rfl⟩⟩
  ·omega
  ·refine Wk.sub ?_ ?_<;>simp only [go_sem,sevalprocAttr]
  ·rcases Nat.lt_or_ge i k with g|g
   ·exact hall i g
   ·rw [show i=k by omega];assumption
 ·unfold sphM
  rw [hpt,hnp]
  exact (yw2 (fun i hi=>hall i (by rw [(yf1 m part np.toNat m.length).1] at hi;omega))).symm
end Go.Proofs.YtbblgobamoabkaaGreatDoor
