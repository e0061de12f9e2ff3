/- Layer 6: a crossing is smoothed. -/
import Derived.Test.YtbblgobamoabkaaGreatDoorMi3
import Derived.Test.YtbblgobamoabkaaGreatDoorPl
import Derived.Test.YtbblgobamoabkaaGreatDoorZk
set_option linter.unusedSimpArgs false
set_option linter.unusedVariables false
namespace Go.Proofs.YtbblgobamoabkaaGreatDoor
open Go Go.RowKit
set_option maxRecDepth 100000
set_option maxHeartbeats 8000000
def yx9:List (List Nat):=[[49,50,51,52,53,54,55,56,57,58],[48,50,51,52,53,54,55,56,57,58],[48,49,51,52,53,54,55,56,57,58],[51,52,53,54,55,56,57,58],[48,49,50,52,53,54,55,56,57,58],[48,49,50,51,53,54,55,56,57,58],[49,50,53,54,55,56,57,58],[48,49,50,51,52,54,55,56,57,58],[48,49,50,51,52,53,56,57,58],[48,49,50,51,52,53,56,57,58],[49,50,51,52,56,57,58],[48,49,50,51,52,53,54,55,58],[48,49,50,51,52,53,54,55,58],[48,49,50,51,52,53,54,55,56,57],[49,50,51,52,53,54,55],[],[]]
def yya:List (List Nat):=[[],[0],[0,1],[],[0,1,2,3],[0,1,2,3,4],[1,2,3],[0,1,2,3,4,5,6],[0,1,2,3,4,5,6,7],[0,1,2,3,4,5,6,7],[1,2,3,4,5,6],[0,1,2,3,4,5,6,7,8,9,10],[0,1,2,3,4,5,6,7,8,9,10],[0,1,2,3,4,5,6,7,8,9,10,11,12],[1,2,3,4,5,6,7,8,9,10],[],[]]
def jmI (f o i:Int):Int->Option Int:=updI (updI (updI (updI (fun _=>none) f o) o f) i (f+2)) (f+2) i
theorem y36 (c:Nat) (b:Bool) (x:Int) (hx:x/4=c):(jmI (4*c) (if b then 4*c+3 else 4*c+1) (if b then 4*c+1 else 4*c+3) x).getD 0=jnB b x:=by
 have h4:x=4*c\/x=4*c+1\/x=4*c+2\/x=4*c+3:=by omega
 unfold jnB
 rw [yen,yc7]
 cases b<;>rcases h4 with rfl|rfl|rfl|rfl<;>simp [jmI,updI]<;>(repeat' (first|(split<;>(try simp))|omega))
def innI (c:Nat) (b:Bool):Int:=if b then 4*c+1 else 4*c+3
def outI (c:Nat) (b:Bool):Int:=if b then 4*c+3 else 4*c+1
theorem y1b (c:Nat) (b:Bool):innI c b/4=c:=by
 unfold innI;cases b
 ·rw [if_neg (by simp)];omega
 ·rw [if_pos rfl];omega
def Hol (g:Int->Option Bool) (u:Int->Bool):Prop:= ∀x,(g x).getD false=u x
theorem Hol.two {g:Int->Option Bool} {u:Int->Bool} (h:Hol g u) (x y:Int):Hol (updB (updB g x true) y true) (usd u x y):=by
 intro z
 simp only [updB,usd]
 by_cases e1:z=y
 ·rw [if_pos e1,e1];simp
 ·rw [if_neg e1]
  by_cases e2:z=x
  ·rw [if_pos e2,e2];simp
  ·have q1:(z==x)=false:=by simpa using e2
   have q2:(z==y)=false:=by simpa using e1
   rw [if_neg e2,h z,q1,q2];simp
theorem yyb (s m:List Int) (L:Int) (c:Nat) (hc:c<s.length) (hL:L<=62) (hv:yap s m L=true) (b:Bool) (hb:(s.getD c 0== -1)=b):
  Fn Tryz.prog 68 [dgA s m L,I c] (.tup [dgA (woS s c s.length) (woM (smE m b c (4*s.length)) c s.length) (L+smL m b c s.length),I 0]):=by
 have v1:=ya1 hv
 have h64:=v1.s64
 have hl:=v1.len
 have hl0:=v1.l0
 have hsg:=v1.sg c hc
 have hp:=v1.prd
 have hcl:=yx8 m (by omega) (by omega)
 obtain ⟨i,hi⟩: ∃i,i=innI c b:=⟨_,rfl⟩
 obtain ⟨jm,hjme⟩: ∃jm,jm=jmI (4*c) (outI c b) (innI c b):=⟨_,rfl⟩
 have hjm: ∀x:Int,x/4=c->(jm x).getD 0=jnB b x:=fun x hx=>by rw [hjme];exact y36 c b x hx
 have hid:=y1b c b
 rw [←hi] at hid
 have hsc:(s.getD c 0= -1/\i=4*c+1/\jm=updI (updI (updI (updI (fun _=>none) (4*c) (4*c+3)) (4*c+3) (4*c)) (4*c+1) (4*c+2)) (4*c+2) (4*c+1))\/
   (s.getD c 0≠ -1/\i=4*c+3/\jm=updI (updI (updI (updI (fun _=>none) (4*c) (4*c+1)) (4*c+1) (4*c)) (4*c+3) (4*c+2)) (4*c+2) (4*c+3)):=by
  cases b
  ·exact .inr ⟨by simpa using hb,hi,hjme⟩
  ·exact .inl ⟨by simpa using hb,hi,hjme⟩
 have hii:i=innI c b:=hi
 clear hjme hi
 refine Fn.intro [.cell 4 24, .tmp 5] Tryz.func68 rfl rfl (by decide) (by simp [Tryz.ntmps68]) ?_;rw [Tryz.ntmps68]
 repeat' (first|omega|(try apply yaa);simp only [go_sem,sevalprocAttr]|apply yab<;>(intro h_;(try simp only [h_]);revert h_)|apply And.intro|with_reducible intro h_|trivial|simp only [go_sem,la2];omega)
 refine ⟨yae.fn rfl (yc5 s m L) ?_⟩
 rw [hv]
 rcases hsc with ⟨hs1,hi1,hj1⟩|⟨hs1,hi1,hj1⟩
 all_goals repeat' (first|omega|(first|apply yaa|(refine yac.intro (id:=10) yx9 yya (by decide+kernel) mixed ?_)|skip);simp only [go_sem,sevalprocAttr,↓reduceIte,reduceCtorEq,yx9,yya]|apply yab<;>(intro h_;(try simp only [h_]);revert h_)|apply And.intro|with_reducible intro h_|trivial|simp only [go_sem,la2];omega)
 all_goals first|(repeat' split)<;>first|omega|rfl|(refine ⟨yae.fno rfl hcl ?_⟩)
 all_goals repeat' (first|omega|(try apply yaa);simp only [go_sem,sevalprocAttr]|apply yab<;>(intro h_;(try simp only [h_]);revert h_)|apply And.intro|with_reducible intro h_|trivial|simp only [go_sem,la2];omega)
 all_goals (
  refine yaj.intro (fun n fr H=> ∃(h:Nat) (g:Int->Option Bool),h<=m.length/\n=m.length-h/\Hol g (smU m b c h)/\fr=[(67,I h),(66,I m.length),(65,roI m),(12, .mp 4),(11, .sl 1 3 0 m.length),(10, .mp 2),(8,I i),(7,I (4*c)),(4, .ptr 1 0),(2, .ptr 0 0),(1,I c)]/\H=[(4, .fmap 145 (.bools g)),(3, .cells 3 (.ints (smE m b c h))),(2, .fmap 144 (.ints jm)),(1, .cells 24 (.lst [.nils, .nils,I 0])),(0, .cells 24 (.lst [roI s,roI m,I L]))]) ?_ ?_
  ·refine ⟨_,_,_,?_,0,fun _=>none,by omega,rfl,fun _=>rfl,rfl,rfl⟩
   refine Wk.sub ?_ ?_<;>simp only [go_sem,sevalprocAttr]
   all_goals simp [hi1,hj1,smE]
  rintro n fr H ⟨h,g,hh,rfl,hg,rfl,rfl⟩
  have hel:=yj7 (m:=m) (b:=b) (c:=c) h
  by_cases hhl:h<m.length
  ·have e1:(h:Int).tdiv 4=(h/4:Nat):=by rw [ybe (by omega)];omega
   have hmr:=hp.ok.2 h (by omega)
   repeat' (first|omega|(try apply yaa);simp only [go_sem,sevalprocAttr,e1]|apply yab<;>(intro h_;(try simp only [h_]);revert h_)|apply And.intro|with_reducible intro h_|trivial|simp only [go_sem,la2];omega)
   ·have hhc:h/4=c:=by omega
    refine ⟨_,_,_,?_,?_,⟨h+1,g,by omega,rfl,?_,rfl,rfl⟩⟩
    ·omega
    ·refine Wk.sub ?_ ?_<;>simp only [go_sem,sevalprocAttr]
     all_goals simp [smE,hhc]
    ·simp only [smU,hhc,if_true];exact hg
   ·have hhc:h/4≠c:=by omega
    have ho:=yij (b:=b) hp hc (show h<4*s.length by omega) hhc
    refine yaj.intro (fun f fr H=> ∃(x:Int) (u:Int->Bool) (g:Int->Option Bool),0<=x/\x<4*s.length/\thrX m b c f x=thrX m b c 5 (m.getD h 0)/\thrU m b c f x u=thrU m b c 5 (m.getD h 0) (smU m b c h)/\Hol g u/\fr=[(14,I x),(13,I h),(67,I h),(66,I m.length),(65,roI m),(12, .mp 4),(11, .sl 1 3 0 m.length),(10, .mp 2),(8,I i),(7,I (4*c)),(4, .ptr 1 0),(2, .ptr 0 0),(1,I c)]/\H=[(4, .fmap 145 (.bools g)),(3, .cells 3 (.ints (smE m b c h))),(2, .fmap 144 (.ints jm)),(1, .cells 24 (.lst [.nils, .nils,I 0])),(0, .cells 24 (.lst [roI s,roI m,I L]))]) ?_ ?_
    ·refine ⟨5,_,_,?_,m.getD h 0,smU m b c h,g,hmr.1,hmr.2,rfl,rfl,hg,rfl,rfl⟩
     refine Wk.sub ?_ ?_<;>simp only [go_sem,sevalprocAttr]
    rintro f fr H ⟨x,u,g',hx0,hx1,hX,hU,hg',rfl,rfl⟩
    have e2:x.tdiv 4=x/4:=ybe hx0
    by_cases hxc:x/4=c
    ·obtain ⟨f',rfl⟩: ∃f',f=f'+1:=by
      cases f with
      |zero=>rw [←hX] at ho;exact absurd hxc ho
      |succ f'=>exact ⟨f',rfl⟩
     have ej:=hjm x hxc
     have hjd:=ycm b x
     have hmj:=hp.ok.2 (jnB b x).toNat (by omega)
     rw [ym4 hxc] at hX
     rw [yso hxc] at hU
     repeat' (first|omega|(try apply yaa);simp only [go_sem,sevalprocAttr,e2,ej]|apply yab<;>(intro h_;(try simp only [h_]);revert h_)|apply And.intro|with_reducible intro h_|trivial|simp only [go_sem,la2];omega)
     refine ⟨f',_,_,?_,?_,⟨m.getD (jnB b x).toNat 0,usd u x (jnB b x),updB (updB g' x true) (jnB b x) true,hmj.1,hmj.2,hX,hU,hg'.two x _,rfl,rfl⟩⟩
     ·omega
     ·refine Wk.sub ?_ ?_<;>simp only [go_sem,sevalprocAttr]
    ·rw [yj6 hxc] at hX
     rw [ysp hxc] at hU
     repeat' (first|omega|(try apply yaa);simp only [go_sem,sevalprocAttr,e2]|apply yab<;>(intro h_;(try simp only [h_]);revert h_)|apply And.intro|with_reducible intro h_|trivial|simp only [go_sem,la2];omega)
     refine ⟨_,_,_,?_,?_,⟨h+1,g',by omega,rfl,?_,rfl,rfl⟩⟩
     ·omega
     ·refine Wk.sub ?_ ?_<;>simp only [go_sem,sevalprocAttr]
      all_goals simp [smE,hhc,hX]
     ·simp only [smU,hhc,if_false];rw [←hU];exact hg'
  ·obtain rfl:h=m.length:=by omega
   rw [hl] at hel hg⊢
   repeat' (first|omega|(try apply yaa);simp only [go_sem,sevalprocAttr]|apply yab<;>(intro h_;(try simp only [h_]);revert h_)|apply And.intro|with_reducible intro h_|trivial|simp only [go_sem,la2];omega)
   have hse:=y5b (b:=b) hp hc (4*s.length) (Nat.le_refl _)
   have hin: ∀x:Int,x/4=c->smU m b c (4*s.length) x=false->nxC m b x/4=(c:Int):=fun x hx hu=>yw7 hp hc hx hu
   have hsml:smL m b c s.length=(if smU m b c (4*s.length) (4*c) then 0 else 1)+(if (if smU m b c (4*s.length) (4*c) then smU m b c (4*s.length) else lpU m b 5 (4*c) (smU m b c (4*s.length))) i then 0 else 1):=by
    rw [hii];rfl
   generalize smU m b c (4*s.length)=u0 at*
   refine yaj.intro (fun n fr H=> ∃(k:Nat) (u:Int->Bool) (g:Int->Option Bool) (l:Int),n=2-k/\((k=0/\u=u0/\l=L)\/(k=1/\u=(if u0 (4*c) then u0 else lpU m b 5 (4*c) u0)/\l=L+(if u0 (4*c) then 0 else 1))\/(k=2/\l=L+smL m b c s.length))/\(∀y,u0 y=true->u y=true)/\Hol g u/\
    fr=[(103,I k),(102,I (2:Nat)),(101, .sl 1 5 0 2),(15,I l),(12, .mp 4),(11, .sl 1 3 0 (4*s.length)),(10, .mp 2),(4, .ptr 1 0),(2, .ptr 0 0),(1,I c)]/\H=[(5, .cells 3 (.ints [4*(c:Int),i])),(4, .fmap 145 (.bools g)),(3, .cells 3 (.ints (smE m b c (4*s.length)))),(2, .fmap 144 (.ints jm)),(1, .cells 24 (.lst [.nils, .nils,I 0])),(0, .cells 24 (.lst [roI s,roI m,I L]))]) ?_ ?_
   ·refine ⟨_,_,_,?_,0,u0,g,L,rfl, .inl ⟨rfl,rfl,rfl⟩,fun _ h=>h,hg,rfl,rfl⟩
    refine Wk.sub ?_ ?_<;>simp only [go_sem,sevalprocAttr]
   rintro n fr H ⟨k,u,g,l,rfl,hk,hsup,hg,rfl,rfl⟩
   by_cases hk2:k=2
   ·subst hk2
    obtain rfl:l=L+smL m b c s.length:=by omega
    have hlb:0<=smL m b c s.length/\smL m b c s.length<=2:=by rw [hsml];constructor<;>(repeat' split)<;>omega
    have hwo:=yu4 s (smE m b c (4*s.length)) c (L+smL m b c s.length) (by omega) hse
    repeat' (first|omega|(try apply yaa);simp only [go_sem,sevalprocAttr]|apply yab<;>(intro h_;(try simp only [h_]);revert h_)|apply And.intro|with_reducible intro h_|trivial|simp only [go_sem,la2];omega)
    have hwo':Fn Tryz.prog 108 [roI s, .ro 1 (4*s.length) (.ints ((smE m b c (4*s.length)).take (4*s.length))),I c,I (L+smL m b c s.length)] (dgA (woS s c s.length) (woM (smE m b c (4*s.length)) c s.length) (L+smL m b c s.length)):=by
     rw [List.take_of_length_le (by omega)]
     have e:roI (smE m b c (4*s.length))= .ro 1 (4*s.length) (.ints (smE m b c (4*s.length))):=by unfold roI;rw [hel]
     rw [e] at hwo;exact hwo
    refine ⟨yae.frz [3] rfl (by simp only [go_sem,sevalprocAttr,hel,Nat.le_refl]) (by simp only [go_sem,sevalprocAttr,hel,Nat.le_refl]) (by simp only [go_sem,sevalprocAttr,hel,Nat.le_refl]) (by simp only [go_sem,sevalprocAttr,hel,Nat.le_refl]) rfl rfl rfl (yae.fn rfl hwo' ?_)⟩
    repeat' (first|omega|(try apply yaa);simp only [go_sem,sevalprocAttr]|apply yab<;>(intro h_;(try simp only [h_]);revert h_)|apply And.intro|with_reducible intro h_|trivial|simp only [go_sem,la2];omega)
   ·have hstart:[4*(c:Int),i].getD k 0/4=(c:Int):=by
     rcases hk with ⟨rfl,_⟩|⟨rfl,_⟩|⟨rfl,_⟩
     ·simp only [List.getD_cons_zero];omega
     ·simpa using hid
     ·omega
    have hk01:k<2:=by omega
    have hlb:L<=l/\l<=L+1:=by
     rcases hk with ⟨_,_,h⟩|⟨_,_,h⟩|⟨h,_⟩
     ·omega
     ·rw [h];split<;>omega
     ·omega
    have hgs:=hg ([4*(c:Int),i].getD k 0)
    have hnT:u ([4*(c:Int),i].getD k 0)=true->((k+1=0/\u=u0/\l=L)\/(k+1=1/\u=(if u0 (4*c) then u0 else lpU m b 5 (4*c) u0)/\l=L+(if u0 (4*c) then 0 else 1))\/(k+1=2/\l=L+smL m b c s.length)):=fun ht=>by
     rcases hk with ⟨rfl,rfl,rfl⟩|⟨rfl,hu,rfl⟩|⟨rfl,_⟩
     ·simp only [List.getD_cons_zero] at ht
      exact .inr (.inl ⟨rfl,by rw [if_pos ht],by rw [if_pos ht];omega⟩)
     ·simp only [List.getD_cons_succ,List.getD_cons_zero] at ht
      rw [hu] at ht
      exact .inr (.inr ⟨rfl,by rw [hsml,if_pos ht];omega⟩)
     ·omega
    have hnF:u ([4*(c:Int),i].getD k 0)=false->((k+1=0/\lpU m b 5 ([4*(c:Int),i].getD k 0) u=u0/\l+1=L)\/(k+1=1/\lpU m b 5 ([4*(c:Int),i].getD k 0) u=(if u0 (4*c) then u0 else lpU m b 5 (4*c) u0)/\l+1=L+(if u0 (4*c) then 0 else 1))\/(k+1=2/\l+1=L+smL m b c s.length)):=fun ht=>by
     rcases hk with ⟨rfl,rfl,rfl⟩|⟨rfl,hu,rfl⟩|⟨rfl,_⟩
     ·have ht': ¬u (4*c)=true:=by simp only [List.getD_cons_zero] at ht;rw [ht];simp
      exact .inr (.inl ⟨rfl,(if_neg ht').symm,by rw [if_neg ht']⟩)
     ·simp only [List.getD_cons_succ,List.getD_cons_zero] at ht
      rw [hu] at ht
      exact .inr (.inr ⟨rfl,by rw [hsml,ht];simp;omega⟩)
     ·omega
    obtain ⟨st,hst⟩: ∃st,[4*(c:Int),i].getD k 0=st:=⟨_,rfl⟩
    rw [hst] at hstart hgs hnT hnF
    repeat' (first|omega|(try apply yaa);simp only [go_sem,sevalprocAttr,hst,hgs]|apply yab<;>(intro h_;(try simp only [h_]);revert h_)|apply And.intro|with_reducible intro h_|trivial|simp only [go_sem,la2];omega)
    ·refine ⟨_,_,_,?_,?_,⟨k+1,u,g,l,rfl,hnT (by assumption),hsup,hg,rfl,rfl⟩⟩
     ·omega
     ·refine Wk.sub ?_ ?_<;>simp only [go_sem,sevalprocAttr]
    ·have hsf:u st=false:=by assumption
     have hfr:=ypu (c:=c) u
     refine yaj.intro (fun f fr H=> ∃(h:Int) (u':Int->Bool) (g':Int->Option Bool),h/4=c/\lpU m b f h u'=lpU m b 5 st u/\yil c u'<f/\(∀y,u0 y=true->u' y=true)/\Hol g' u'/\
      fr=[(18,I h),(103,I k),(102,I (2:Nat)),(101, .sl 1 5 0 2),(15,I (l+1)),(12, .mp 4),(11, .sl 1 3 0 (4*s.length)),(10, .mp 2),(4, .ptr 1 0),(2, .ptr 0 0),(1,I c)]/\H=[(5, .cells 3 (.ints [4*(c:Int),i])),(4, .fmap 145 (.bools g')),(3, .cells 3 (.ints (smE m b c (4*s.length)))),(2, .fmap 144 (.ints jm)),(1, .cells 24 (.lst [.nils, .nils,I 0])),(0, .cells 24 (.lst [roI s,roI m,I L]))]) ?_ ?_
     ·refine ⟨5,_,_,?_,st,u,g,hstart,rfl,by omega,hsup,hg,rfl,rfl⟩
      refine Wk.sub ?_ ?_<;>simp only [go_sem,sevalprocAttr]
     rintro f fr H ⟨h,u',g',hhc,hlp,hfr',hsup',hg',rfl,rfl⟩
     have hgh:=hg' h
     have ejh:=hjm h hhc
     have hjd:=ycm b h
     have hmj:=hp.ok.2 (jnB b h).toNat (by omega)
     cases huh:u' h with
     |true=>
      rw [huh] at hgh
      rw [y1s huh] at hlp
      repeat' (first|omega|(try apply yaa);simp only [go_sem,sevalprocAttr,hgh]|apply yab<;>(intro h_;(try simp only [h_]);revert h_)|apply And.intro|with_reducible intro h_|trivial|simp only [go_sem,la2];omega)
      refine ⟨_,_,_,?_,?_,⟨k+1,u',g',l+1,rfl,by rw [hlp];exact hnF hsf,hsup',hg',rfl,rfl⟩⟩
      ·omega
      ·refine Wk.sub ?_ ?_<;>simp only [go_sem,sevalprocAttr]
     |false=>
      rw [huh] at hgh
      obtain ⟨f',rfl⟩: ∃f',f=f'+1:=⟨f-1,by omega⟩
      rw [y1t huh] at hlp
      have hf2:=yn6 (c:=c) (u:=u') (x:=h) (y:=jnB b h) hhc huh
      have hu0:u0 h=false:=by
       cases hq:u0 h with
       |false=>rfl
       |true=>have:=hsup' h hq;rw [huh] at this;cases this
      have hnx:=hin h hhc hu0
      repeat' (first|omega|(try apply yaa);simp only [go_sem,sevalprocAttr,hgh,ejh]|apply yab<;>(intro h_;(try simp only [h_]);revert h_)|apply And.intro|with_reducible intro h_|trivial|simp only [go_sem,la2];omega)
      refine ⟨f',_,_,?_,?_,⟨nxC m b h,usd u' h (jnB b h),updB (updB g' h true) (jnB b h) true,hnx,hlp,by omega,fun y hy=>by simp [usd,hsup' y hy],hg'.two h _,rfl,rfl⟩⟩
      ·omega
      ·refine Wk.sub ?_ ?_<;>simp only [go_sem,sevalprocAttr]
       rfl)
end Go.Proofs.YtbblgobamoabkaaGreatDoor
set_option linter.unusedSimpArgs false
set_option linter.unusedVariables false
namespace Go.Proofs.YtbblgobamoabkaaGreatDoor
open Go Go.RowKit
set_option maxRecDepth 100000
set_option maxHeartbeats 4000000
theorem y1c (g:Nat) (c:Cs) (nx:Int->Int) (x:Int) (k:Nat) (hk:Per nx x k) (hb:k<=100000) (hf: ∀j,j<k->Fn Tryz.prog g [I (it nx j x), .rp c 0] (I (it nx (j+1) x))):
  Fn Tryz.prog 144 [I x, .fn g [.rp c 0]] (roI (its nx x k)):=by
 have k0:=hk.pos
 refine Fn.intro [.tmp 4] Tryz.func144 rfl rfl (by decide) (by simp [Tryz.ntmps144]) ?_;rw [Tryz.ntmps144]
 repeat' (first|omega|(try apply yaa);simp only [go_sem,sevalprocAttr]|apply yab<;>(intro h_;(try simp only [h_]);revert h_)|apply And.intro|with_reducible intro h_|trivial|simp only [go_sem,la2];omega)
 refine ⟨yae.fn rfl (hf 0 k0) ?_⟩
 repeat' (first|omega|(try apply yaa);simp only [go_sem,sevalprocAttr]|apply yab<;>(intro h_;(try simp only [h_]);revert h_)|apply And.intro|with_reducible intro h_|trivial|simp only [go_sem,la2];omega)
 refine yaj.intro (fun n fr H=> ∃j:Nat,0<j/\j<=k/\n=k-j/\fr=[(6,I (it nx j x)),(5, .sl 1 0 0 j),(1, .fn g [.rp c 0]),(0,I x)]/\H=[(0, .cells 3 (.ints (its nx x j)))]) ?_ ?_
 ·refine ⟨_,_,_,?_,1,by omega,by omega,rfl,rfl,rfl⟩
  refine Wk.sub ?_ ?_<;>simp only [go_sem,sevalprocAttr]
  rfl
 rintro n fr H ⟨j,hj,hjk,rfl,rfl,rfl⟩
 have e1:=ym2 nx x j
 have e2:=ym2 nx x k
 by_cases hjl:j<k
 ·have hne:=hk.first j hj hjl
  repeat' (first|omega|(try apply yaa);simp only [go_sem,sevalprocAttr]|apply yab<;>(intro h_;(try simp only [h_]);revert h_)|apply And.intro|with_reducible intro h_|trivial|simp only [go_sem,la2];omega)
  refine ⟨yae.fn rfl (hf j hjl) ?_⟩
  repeat' (first|omega|(try apply yaa);simp only [go_sem,sevalprocAttr]|apply yab<;>(intro h_;(try simp only [h_]);revert h_)|apply And.intro|with_reducible intro h_|trivial|simp only [go_sem,la2];omega)
  refine ⟨_,_,_,?_,?_,⟨j+1,by omega,by omega,rfl,rfl,rfl⟩⟩
  ·omega
  ·refine Wk.sub ?_ ?_<;>simp only [go_sem,sevalprocAttr]
   exact (ypq nx x j).symm
 ·obtain rfl:j=k:=by omega
  have hne:=hk.back
  repeat' (first|omega|(try apply yaa);simp only [go_sem,sevalprocAttr]|apply yab<;>(intro h_;(try simp only [h_]);revert h_)|apply And.intro|with_reducible intro h_|trivial|simp only [go_sem,la2];omega)
  exact List.take_of_length_le (by omega)
end Go.Proofs.YtbblgobamoabkaaGreatDoor
