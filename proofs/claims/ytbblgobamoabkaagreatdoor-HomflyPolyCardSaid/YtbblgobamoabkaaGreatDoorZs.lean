/- The reference of layer 13: Mul. -/
import Derived.Test.YtbblgobamoabkaaGreatDoorZr
import Derived.Test.YtbblgobamoabkaaGreatDoorZk
namespace Go.Proofs.YtbblgobamoabkaaGreatDoor
open Go Go.RowKit
set_option maxRecDepth 100000
set_option maxHeartbeats 8000000
set_option linter.unusedVariables false
set_option linter.unusedSimpArgs false
def yms:List (List Nat):=[[33,36,37,38,39,40,8,9],[33,36,37,38,39,40,8,9],[31,32,36,37,38,39,40,8,9],[36,37,38,39,40,8,9],[36,37,38,39,40,8,9],[31,32,33,34,35,38,8,9],[31,32,33,34,35,38,8,9],[31,32,33,34,35,36,37,8,9],[31,32,33,34,35,8,9],[31,32,33,34,35,8,9],[31,32,33,34,35,36,37,38,39,40,9],[31,32,33,34,35,36,37,38,39,40,8],[36,37,38,39,40],[]]
def ymt:List (List Nat):=[[],[],[0,1],[],[],[0,1,2,3,4],[0,1,2,3,4,6],[0,1,2,3,4,5,6],[0,1,2,3,4],[0,1,2,3,4,9],[0,1,2,3,4,5,6,7,8,9],[0,1,2,3,4,5,6,7,8,9,10],[5,6,7,8,9],[]]
theorem yys (p q:List (Int×Int)) (hp:p.length<=300) (hq:q.length<=300) (hb: ∀t∈p,∀u∈q,-1125899906842624<=t.2*u.2/\t.2*u.2<=1125899906842624) (he: ∀t∈p,bvOk t.1) (hf: ∀t∈q,bvOk t.1) (h:yhd (mulR p q)):
  Fn Tryz.prog 77 [bqP p,bqP q] (bqP (nz (sumR (mulR p q)))):=by
 have hO:=Fn.ofN (yhe _ h)
 have hlp:=yal p
 have hlq:=yal q
 generalize hr:nz (sumR (mulR p q))=r at*
 refine Fn.introL [.cell 4 40] Tryz.func77 rfl rfl (by decide) (by simp [Tryz.ntmps77]) ?_;rw [Tryz.ntmps77]
 repeat' (first|omega|(try apply yaa);simp only [go_sem,sevalprocAttr,yad]|apply yab<;>(intro h_;(try simp only [h_]);revert h_)|apply And.intro|with_reducible intro h_|trivial|simp only [go_sem,la2];omega)
 refine yaj.intro (fun k fr H=> ∃(i:Nat) (X:AV) (G:Hp),i<=p.length/\k=p.length-i/\((mulR (p.take i) q=[]/\X= .nils/\G=[])\/(X= .sl 3 16 0 (mulR (p.take i) q).length/\G=[(16, .cells 84 (.lst (bvC (mulR (p.take i) q))))]))/\
  fr=[(6,I i),(5,X),(4, .ptr 2 0),(3, .ptr 1 0),(2, .ptr 0 0)]/\H=G++[(2,bqO .nils),(1,bqO (bvT q)),(0,bqO (bvT p))]) ?_ ?_
 ·refine ⟨_,_,_,?_,0, .nils,[],by omega,rfl, .inl ⟨rfl,rfl,rfl⟩,rfl,rfl⟩
  refine Wk.sub ?_ ?_<;>(simp only [go_sem,sevalprocAttr,yad])
 rintro k fr H ⟨i,X,G,hi,rfl,hcase,rfl,rfl⟩
 by_cases hil:i<p.length
 ·have bi:decide ((i:Int)<p.length)=true:=by simp;omega
  obtain ⟨g0,g1,g2⟩:=ybs p i hil
  have hb1:=hb _ (ycd hil)
  have he1:=he _ (ycd hil)
  have hn1:=yyq (p.take i) q (p.getD i (0,0))
  rw [←ye8 hil] at hn1
  have hlm:(mulR (p.take i) q).length<=90000:=by
   rw [yqv,List.length_take]
   exact Nat.le_trans (Nat.mul_le_mul (show min i p.length<=300 by omega) hq) (by decide)
  generalize p.getD i (0,0)=t at*
  obtain ⟨e1,c1⟩:=t
  dsimp only at g0 g1 g2 hb1 he1
  generalize mulR (p.take i) q=M at*
  rcases hcase with ⟨hM,rfl,rfl⟩|⟨rfl,rfl⟩
  all_goals repeat' (first|omega|(try apply yaa);simp only [go_sem,sevalprocAttr,bi,yad]|apply yab<;>(intro h_;(try simp only [h_]);revert h_)|apply And.intro|with_reducible intro h_|trivial|simp only [go_sem,la2];omega)
  all_goals
   refine yaj.intro (fun k fr H=> ∃(j:Nat) (X:AV) (G:Hp),j<=q.length/\k=q.length-j/\((M++mul1 (e1,c1) (q.take j)=[]/\X= .nils/\G=[])\/(X= .sl 3 16 0 (M++mul1 (e1,c1) (q.take j)).length/\G=[(16, .cells 84 (.lst (bvC (M++mul1 (e1,c1) (q.take j)))))]))/\
    fr=[(7,I j),(6,I i),(5,X),(4, .ptr 2 0),(3, .ptr 1 0),(2, .ptr 0 0)]/\H=G++[(2,bqO .nils),(1,bqO (bvT q)),(0,bqO (bvT p))]) ?_ ?_
  ·refine ⟨_,_,_,?_,0, .nils,[],by omega,rfl, .inl ⟨by rw [hM];rfl,rfl,rfl⟩,rfl,rfl⟩
   refine Wk.sub ?_ ?_<;>(simp only [go_sem,sevalprocAttr,yad])
  rotate_left 1
  ·refine ⟨_,_,_,?_,0, .sl 3 16 0 M.length,_,by omega,rfl, .inr ⟨by simp [mul1],rfl⟩,rfl,rfl⟩
   have em:M++mul1 (e1,c1) (q.take 0)=M:=by simp [mul1]
   rw [em]
   refine Wk.sub ?_ ?_<;>(simp only [go_sem,sevalprocAttr,yad])
  all_goals
   rintro k fr H ⟨j,X,G,hj,rfl,hcase,rfl,rfl⟩
   by_cases hjl:j<q.length
   ·have bj:decide ((j:Int)<q.length)=true:=by simp;omega
    obtain ⟨k0,k1,k2⟩:=ybs q j hjl
    have hb2:=hb1 _ (ycd hjl)
    have he2:=hf _ (ycd hjl)
    have hn2:=yyr (e1,c1) (q.getD j (0,0)) (q.take j)
    rw [←ye8 hjl] at hn2
    have hl2:(mul1 (e1,c1) (q.take j)).length<=300:=by rw [y1h,List.length_take];omega
    generalize q.getD j (0,0)=u at*
    obtain ⟨e2,c2⟩:=u
    dsimp only at k0 k1 k2 hb2 he2 hn2
    obtain ⟨a1,a2⟩:=ynb he1 he2
    obtain ⟨cn,hcn⟩: ∃cn,c1*c2=cn:=⟨_,rfl⟩
    rw [hcn] at hb2 hn2
    have hn3:M++mul1 (e1,c1) (q.take (j+1))=(M++mul1 (e1,c1) (q.take j))++[(e1+e2,cn)]:=by rw [hn2,List.append_assoc]
    have hl3:(M++mul1 (e1,c1) (q.take j)).length<=90300:=by rw [List.length_append];omega
    generalize M++mul1 (e1,c1) (q.take j)=L at*
    have e5:bvC (L++[(e1+e2,cn)])=bvC L++[I (bvA e1+bvA e2),I (bvZ e1+bvZ e2),I cn]:=by rw [ycz];show _++[I (bvA (e1+e2)),I (bvZ (e1+e2)),I cn]=_;rw [a1,a2]
    have e6:(L++[(e1+e2,cn)]).length=L.length+1:=by simp
    have e8:bvC [(e1+e2,cn)]=[I (bvA e1+bvA e2),I (bvZ e1+bvZ e2),I cn]:=by show [I (bvA (e1+e2)),I (bvZ (e1+e2)),I cn]=_;rw [a1,a2]
    have e7:=yal L
    have f1:=ykf cn 1125899906842624 (by decide) (by decide)
    rw [decide_eq_false (by omega),decide_eq_false (by omega),Bool.or_false] at f1
    have b1: -9223372036854775808<=cn:=by omega
    have b2:cn<=9223372036854775807:=by omega
    unfold bvOk at he1 he2
    clear hb hb1 he hf hn1 hn2 h hO
    rcases hcase with ⟨hL,rfl,rfl⟩|⟨rfl,rfl⟩
    ·repeat' (first|omega|(first|apply yaa|(refine yac.intro (id:=10) yms ymt (by decide+kernel) mixed ?_)|skip);simp only [go_sem,sevalprocAttr,bi,bj,g0,g1,g2,k0,k1,k2,hlp,hlq,hcn,b1,b2,yad,↓reduceIte,reduceCtorEq,yms,ymt]|(refine ⟨yae.fn (r:=?_) rfl ?_ ?_⟩;rotate_left;assumption)|(refine ⟨yai.fn (r:=?_) rfl ?_ ?_⟩;rotate_left;assumption)|apply yab<;>(intro h_;(try simp only [h_]);revert h_)|apply And.intro|with_reducible intro h_|trivial|simp only [go_sem,la2];omega)
     refine ⟨_,_,_,?_,?_,j+1, .sl 3 16 0 (L++[(e1+e2,cn)]).length,[(16, .cells 84 (.lst (bvC (L++[(e1+e2,cn)]))))],by omega,rfl, .inr ⟨by first|rw [hn3]|rw [←hn3,List.length_append],by rw [hn3]⟩,rfl,rfl⟩
     ·omega
     ·subst hL
      refine Wk.sub ?_ ?_<;>(simp only [go_sem,sevalprocAttr,yad,e8,e6])
    ·repeat' (first|omega|(first|apply yaa|(refine yac.intro (id:=10) yms ymt (by decide+kernel) mixed ?_)|skip);simp only [go_sem,sevalprocAttr,bi,bj,g0,g1,g2,k0,k1,k2,hlp,hlq,e7,hcn,b1,b2,yad,↓reduceIte,reduceCtorEq,yms,ymt]|(refine ⟨yae.fn (r:=?_) rfl ?_ ?_⟩;rotate_left;assumption)|(refine ⟨yai.fn (r:=?_) rfl ?_ ?_⟩;rotate_left;assumption)|apply yab<;>(intro h_;(try simp only [h_]);revert h_)|apply And.intro|with_reducible intro h_|trivial|simp only [go_sem,la2];omega)
     refine ⟨_,_,_,?_,?_,j+1, .sl 3 16 0 (L++[(e1+e2,cn)]).length,[(16, .cells 84 (.lst (bvC (L++[(e1+e2,cn)]))))],by omega,rfl, .inr ⟨by first|rw [hn3]|rw [←hn3,List.length_append],by rw [hn3]⟩,rfl,rfl⟩
     ·omega
     ·refine Wk.sub ?_ ?_<;>(simp only [go_sem,sevalprocAttr,yad,e5,e6,ycq,List.all_append])
   ·obtain rfl:j=q.length:=by omega
    have bj:decide ((q.length:Int)<q.length)=false:=by simp
    rw [List.take_length,←hn1] at hcase
    rcases hcase with ⟨hL,rfl,rfl⟩|⟨rfl,rfl⟩
    ·repeat' (first|omega|(try apply yaa);simp only [go_sem,sevalprocAttr,bj,yad]|apply yab<;>(intro h_;(try simp only [h_]);revert h_)|apply And.intro|with_reducible intro h_|trivial|simp only [go_sem,la2];omega)
     refine ⟨_,_,_,?_,?_,i+1, .nils,[],by omega,rfl, .inl ⟨hL,rfl,rfl⟩,rfl,rfl⟩
     ·omega
     ·refine Wk.sub ?_ ?_<;>(simp only [go_sem,sevalprocAttr,yad])
    ·repeat' (first|omega|(try apply yaa);simp only [go_sem,sevalprocAttr,bj,yad]|apply yab<;>(intro h_;(try simp only [h_]);revert h_)|apply And.intro|with_reducible intro h_|trivial|simp only [go_sem,la2];omega)
     refine ⟨_,_,_,?_,?_,i+1,_,_,by omega,rfl, .inr ⟨rfl,rfl⟩,rfl,rfl⟩
     ·omega
     ·refine Wk.sub ?_ ?_<;>(simp only [go_sem,sevalprocAttr,yad])
 ·obtain rfl:i=p.length:=by omega
  have bi:decide ((p.length:Int)<p.length)=false:=by simp
  rw [List.take_length] at hcase
  have hRl:=yal (mulR p q)
  rw [Nat.mul_comm] at hRl
  have htk:(bvC (mulR p q)).take ((mulR p q).length*3)=bvC (mulR p q):=List.take_of_length_le (by omega)
  rcases hcase with ⟨hM,rfl,rfl⟩|⟨rfl,rfl⟩
  ·rw [hM] at hO
   have hO0:Fn Tryz.prog 76 [.nils] (bqP r):=hO.arg (.cons (LeA.nils (by decide) rfl) .nil)
   repeat' (first|omega|(try apply yaa);simp only [go_sem,sevalprocAttr,bi,yad]|apply yab<;>(intro h_;(try simp only [h_]);revert h_)|apply And.intro|with_reducible intro h_|trivial|simp only [go_sem,la2];omega)
   refine ⟨yae.fn rfl hO0 ?_⟩
   repeat' (first|omega|(try apply yaa);simp only [go_sem,sevalprocAttr,yad]|apply yab<;>(intro h_;(try simp only [h_]);revert h_)|apply And.intro|with_reducible intro h_|trivial|simp only [go_sem,la2];omega)
   all_goals exact LeA.refl _
  ·generalize mulR p q=R at*
   repeat' (first|omega|(try apply yaa);simp only [go_sem,sevalprocAttr,bi,yad]|apply yab<;>(intro h_;(try simp only [h_]);revert h_)|apply And.intro|with_reducible intro h_|trivial|simp only [go_sem,la2];omega)
   refine ⟨yae.frz [16] rfl (by simp only [go_sem,sevalprocAttr,htk,hRl,yad,ybd,ya8,yba,ybm,Nat.le_refl]) (by simp only [go_sem,sevalprocAttr,htk,hRl,yad,ybd,ya8,yba,ybm,Nat.le_refl]) (by simp only [go_sem,sevalprocAttr,htk,hRl,yad,ybd,ya8,yba,ybm,Nat.le_refl]) (by simp only [go_sem,sevalprocAttr,htk,hRl,yad,ybd,ya8,yba,ybm,Nat.le_refl]) rfl rfl rfl (yae.fn rfl hO ?_)⟩
   repeat' (first|omega|(try apply yaa);simp only [go_sem,sevalprocAttr,yad]|apply yab<;>(intro h_;(try simp only [h_]);revert h_)|apply And.intro|with_reducible intro h_|trivial|simp only [go_sem,la2];omega)
   all_goals exact LeA.refl _
end Go.Proofs.YtbblgobamoabkaaGreatDoor
namespace Go.Proofs.YtbblgobamoabkaaGreatDoor
open Sp
set_option linter.unusedSimpArgs false
set_option linter.unusedVariables false
def trF:Nat->List Int->List Int->Nat->Int->Int
 |0,_,_,_,_=>0
 |f+1,s,m,l,e=>match badO s m with
  |none=>Hs.XE (l+(yam s m).length) e
  |some c=>trF f (swS s c.toNat) (swM s m c.toNat) l (e-bvE (2*s.getD c.toNat 0) 0)+s.getD c.toNat 0*trF f (smS s c.toNat) (smM s m c.toNat) (smLp s m c.toNat l).toNat (e-bvE (s.getD c.toNat 0) 1)
def muR (s m:List Int):Nat:=s.length*s.length+bc s m+1
def hTr (s m:List Int) (l:Nat):Int->Int:=trF (muR s m) s m l
theorem ymu {s m:List Int} {l c l':Nat} (h:ybg s m l) (hb:badO s m=some (c:Int)) (hc:c<s.length) (hl':smLp s m c l=l') (h2:ybg (smS s c) (smM s m c) l') (e2:(smS s c).length+1=s.length):
  muR (swS s c) (swM s m c)+1<=muR s m/\muR (smS s c) (smM s m c)+1<=muR s m/\bc (swS s c) (swM s m c)+1<=bc s m/\bc (smS s c) (smM s m c)<=(smS s c).length:=by
 have hbs:=y1y h.val hc hb
 have hb2:=yiq (ya1 h2.val)
 have e1:(swS s c).length=s.length:=ydg ..
 obtain ⟨d,hd⟩: ∃d,s.length=d+1:=⟨s.length-1,by omega⟩
 have hsq:s.length*s.length=d*d+2*d+1:=by rw [hd,Nat.add_mul,Nat.mul_add];omega
 have e3:(smS s c).length=d:=by omega
 unfold muR
 rw [e1,e3,hsq]
 rw [e3] at hb2
 omega
theorem yqy: ∀s m l,ybg s m l-> ∀f g,muR s m<=f->muR s m<=g-> ∀e,trF f s m l e=trF g s m l e:=by
 refine yga (fun s m l h hb f g hf hg e=>?_) fun s m l c l' h hb hc hsg hl' h1 e1 h2 e2 i1 i2 f g hf hg e=>?_
 ·have hm:1<=muR s m:=by unfold muR;omega
  obtain ⟨f,rfl⟩: ∃x,f=x+1:=⟨f-1,by omega⟩
  obtain ⟨g,rfl⟩: ∃x,g=x+1:=⟨g-1,by omega⟩
  unfold trF
  rw [hb]
 ·have hm:1<=muR s m:=by unfold muR;omega
  obtain ⟨d1,d2,_,_⟩:=ymu h hb hc hl' h2 e2
  obtain ⟨f,rfl⟩: ∃x,f=x+1:=⟨f-1,by omega⟩
  obtain ⟨g,rfl⟩: ∃x,g=x+1:=⟨g-1,by omega⟩
  unfold trF
  rw [hb]
  dsimp only
  rw [Int.toNat_natCast,hl',Int.toNat_natCast,i1 f g (by omega) (by omega),i2 f g (by omega) (by omega)]
theorem ygw {s m:List Int} {l:Nat} (hb:badO s m=none) (e:Int):hTr s m l e=Hs.XE (l+(yam s m).length) e:=by
 unfold hTr muR trF
 rw [hb]
theorem ygx {s m:List Int} {l c l':Nat} (h:ybg s m l) (hb:badO s m=some (c:Int)) (hc:c<s.length) (hl':smLp s m c l=l') (h1:ybg (swS s c) (swM s m c) l) (h2:ybg (smS s c) (smM s m c) l') (e2:(smS s c).length+1=s.length) (e:Int):
  hTr s m l e=hTr (swS s c) (swM s m c) l (e-bvE (2*s.getD c 0) 0)+s.getD c 0*hTr (smS s c) (smM s m c) l' (e-bvE (s.getD c 0) 1):=by
 obtain ⟨d1,d2,_,_⟩:=ymu h hb hc hl' h2 e2
 obtain ⟨f,hf⟩: ∃x,muR s m=x+1:=⟨s.length*s.length+bc s m,rfl⟩
 have e3:hTr s m l e=trF (f+1) s m l e:=by unfold hTr;rw [hf]
 rw [e3]
 unfold trF
 rw [hb]
 dsimp only
 rw [Int.toNat_natCast,hl',Int.toNat_natCast,yqy _ _ _ h1 f _ (by omega) (Nat.le_refl _),yqy _ _ _ h2 f _ (by omega) (Nat.le_refl _)]
 rfl
theorem y5o {s m:List Int} {l c l':Nat} (h:ybg s m l) (hc:c<s.length) (hl':smLp s m c l=l'):(smS s c).length+1=s.length:=by
 have hl:=h.len
 have hn:=h.n14
 have hsm:=yf9 (m:=m) (b:=(s.getD c 0== -1)) (c:=c) (n:=s.length)
 have hlp:smLp s m c l=l+smL m (s.getD c 0== -1) c s.length:=rfl
 obtain ⟨v2,l2⟩:=yjm h.val hc (by omega)
 omega
theorem SupB.sub {f:Int->Int} {N M a z:Int} (h:SupB f N) (ha: -M<=a/\a<=M) (hz: -M<=z/\z<=M) (hN:N<=1000) (hM:M<=1000) {e:Int} (he:f (e-bvE a z)≠0):(-(N+M)<=bvA e/\bvA e<=N+M)/\ -(N+M)<=bvZ e/\bvZ e<=N+M:=
 (h.shift ha hz (by omega) (by omega)) e he
theorem ytl: ∀s m l,ybg s m l->SupB (hTr s m l) (2*bc s m+s.length*s.length+4*s.length+l+1):=by
 refine yga (fun s m l h hb e he=>?_) fun s m l c l' h hb hc hsg hl' h1 e1 h2 e2 i1 i2 e he=>?_
 ·rw [ygw hb] at he
  have h1:=Hs.XE_sup _ e he
  have h3:=yby s m
  have h4:=(ya1 h.val).len
  have h5:(0:Int)<=s.length*s.length:=by have:=Int.natCast_nonneg (s.length*s.length);rwa [Int.natCast_mul] at this
  omega
 ·obtain ⟨_,_,d1,d2⟩:=ymu h hb hc hl' h2 e2
  rw [ygx h hb hc hl' h1 h2 e2] at he
  have hsm:=yf9 (m:=m) (b:=(s.getD c 0== -1)) (c:=c) (n:=s.length)
  have hlp:smLp s m c l=l+smL m (s.getD c 0== -1) c s.length:=rfl
  have hbl:=yiq (ya1 h.val)
  have hn:=h.n14
  have hl:=h.len
  obtain ⟨d,hd⟩: ∃d,s.length=d+1:=⟨s.length-1,by omega⟩
  have hsq:(s.length:Int)*s.length=(d:Int)*d+2*d+1:=by rw [hd,Int.natCast_add,Int.add_mul,Int.mul_add];simp;omega
  have e3:(smS s c).length=d:=by omega
  have hdd:(0:Int)<=(d:Int)*d:=by have:=Int.natCast_nonneg (d*d);rwa [Int.natCast_mul] at this
  have hdd2:(d:Int)*d<=64:=by have:=Nat.mul_le_mul (show d<=8 by omega) (show d<=8 by omega);exact_mod_cast this
  rw [e1] at i1
  rw [e3] at i2 d2
  by_cases hA:hTr (swS s c) (swM s m c) l (e-bvE (2*s.getD c 0) 0)=0
  ·have hB:hTr (smS s c) (smM s m c) l' (e-bvE (s.getD c 0) 1)≠0:=fun hB=>he (by rw [hA,hB,Int.mul_zero];rfl)
   have:=i2.sub (M:=1) (by omega) (by omega) (by omega) (by omega) hB
   omega
  ·have:=i1.sub (M:=2) (by omega) (by omega) (by omega) (by omega) hA
   omega
theorem y4b (k:Nat) (e:Int): -(2^(k-1):Int)<=Hs.XE k e/\Hs.XE k e<=2^(k-1):=by
 unfold Hs.XE Hs.Xh
 have h1:=Hs.dN_bnd (k-1) (bvA e-0)
 have h0:(0:Int)<2^(k-1):=Int.pow_pos (by decide)
 split
 ·exact h1
 ·omega
theorem y4c: ∀s m l,ybg s m l->s.length<=6-> ∀e,-((bc s m+1)*(6^s.length*2^(l+4*s.length)):Nat)<=2*hTr s m l e/\2*hTr s m l e<=((bc s m+1)*(6^s.length*2^(l+4*s.length)):Nat):=by
 refine yga (fun s m l h hb h6 e=>?_) fun s m l c l' h hb hc hsg hl' h1 e1 h2 e2 i1 i2 h6 e=>?_
 ·rw [ygw hb]
  have h1:=y4b (l+(yam s m).length) e
  have h3:=yby s m
  have h4:=(ya1 h.val).len
  have hp:1<=l+(yam s m).length:=by
   rcases h.pos with h5|h5
   ·have:=strands_pos (ya1 h.val) h5;omega
   ·omega
  have h7:2^(l+(yam s m).length)<=2^(l+4*s.length):=Nat.pow_le_pow_right (by decide) (by omega)
  obtain ⟨k,hk⟩: ∃k,l+(yam s m).length=k+1:=⟨l+(yam s m).length-1,by omega⟩
  rw [hk,Nat.add_sub_cancel] at h1
  rw [hk,Nat.pow_succ] at h7
  have h8:1<=6^s.length:=Nat.pow_pos (by decide)
  have h9:2^(l+4*s.length)<=6^s.length*2^(l+4*s.length):=Nat.le_mul_of_pos_left _ h8
  have h10:6^s.length*2^(l+4*s.length)<=(bc s m+1)*(6^s.length*2^(l+4*s.length)):=Nat.le_mul_of_pos_left _ (by omega)
  have h11:((2^k:Nat):Int)=2^k:=by rw [Int.natCast_pow];rfl
  rw [hk]
  generalize (bc s m+1)*(6^s.length*2^(l+4*s.length))=X at*
  generalize 6^s.length*2^(l+4*s.length)=Y at*
  generalize 2^(l+4*s.length)=Z at*
  rw [←h11] at h1
  generalize 2^k=W at*
  omega
 ·obtain ⟨_,_,d1,d2⟩:=ymu h hb hc hl' h2 e2
  rw [ygx h hb hc hl' h1 h2 e2]
  have hsm:=yf9 (m:=m) (b:=(s.getD c 0== -1)) (c:=c) (n:=s.length)
  have hlp:smLp s m c l=l+smL m (s.getD c 0== -1) c s.length:=rfl
  obtain ⟨d,hd⟩: ∃d,s.length=d+1:=⟨s.length-1,by omega⟩
  have e3:(smS s c).length=d:=by omega
  have j1:=i1 (by omega) (e-bvE (2*s.getD c 0) 0)
  have j2:=i2 (by omega) (e-bvE (s.getD c 0) 1)
  rw [e1,hd] at j1
  rw [e3] at j2 d2
  rw [hd]
  have k1:(bc (swS s c) (swM s m c)+1)*(6^(d+1)*2^(l+4*(d+1)))<=bc s m*(6^(d+1)*2^(l+4*(d+1))):=Nat.mul_le_mul_right _ d1
  have k2:(bc (smS s c) (smM s m c)+1)*(6^d*2^(l'+4*d))<=6*(6^d*2^(l+4*(d+1))):=
   Nat.mul_le_mul (by omega) (Nat.mul_le_mul_left _ (Nat.pow_le_pow_right (by decide) (by omega)))
  have k3:6*(6^d*2^(l+4*(d+1)))=6^(d+1)*2^(l+4*(d+1)):=by rw [Nat.pow_succ 6 d,Nat.mul_comm (6^d) 6,Nat.mul_assoc]
  rw [k3] at k2
  have k4:(bc s m+1)*(6^(d+1)*2^(l+4*(d+1)))=bc s m*(6^(d+1)*2^(l+4*(d+1)))+6^(d+1)*2^(l+4*(d+1)):=by rw [Nat.add_mul,Nat.one_mul]
  rw [k4]
  generalize (bc (swS s c) (swM s m c)+1)*(6^(d+1)*2^(l+4*(d+1)))=X1 at*
  generalize (bc (smS s c) (smM s m c)+1)*(6^d*2^(l'+4*d))=X2 at*
  generalize bc s m*(6^(d+1)*2^(l+4*(d+1)))=Y1 at*
  generalize 6^(d+1)*2^(l+4*(d+1))=Y2 at*
  generalize hTr (swS s c) (swM s m c) l (e-bvE (2*s.getD c 0) 0)=u at*
  generalize hTr (smS s c) (smM s m c) l' (e-bvE (s.getD c 0) 1)=v at*
  rcases hsg with h|h<;>rw [h]<;>omega
theorem yiv:HomV 6 26 hTr where
 sup {s m l} h hM:=(ytl s m l h).mono (by
  have hb:=yiq (ya1 h.val)
  have:=Nat.mul_le_mul hM.1 hM.1
  have e:(s.length:Int)*s.length=((s.length*s.length:Nat):Int):=by rw [Int.natCast_mul]
  rw [e];omega)
 bnd {s m l} h hM e:=by
  have hb:=yiq (ya1 h.val)
  have h1:=y4c s m l h hM.1 e
  have h2:6^s.length<=6^6:=Nat.pow_le_pow_right (by decide) hM.1
  have h3:2^(l+4*s.length)<=2^32:=Nat.pow_le_pow_right (by decide) (by omega)
  have h4:=Nat.mul_le_mul (show bc s m+1<=7 by omega) (Nat.mul_le_mul h2 h3)
  rw [show 7*(6^6*2^32)=1402701959135232 from by decide] at h4
  generalize (bc s m+1)*(6^s.length*2^(l+4*s.length))=X at*
  omega
 desc h _ hb e:=ygw hb e
 step h _ hb hc hl' h1 h2 e:=ygx h hb hc hl' h1 h2 (y5o h hc hl') e
end Go.Proofs.YtbblgobamoabkaaGreatDoor
