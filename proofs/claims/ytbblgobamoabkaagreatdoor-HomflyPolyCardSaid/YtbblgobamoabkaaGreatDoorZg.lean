/- The order of terms: what gather's comparison does in every world; slices.SortFunc. -/
import Derived.Test.YtbblgobamoabkaaGreatDoorZf
import Derived.StillTailTactics
import Derived.Test.YtbblgobamoabkaaGreatDoorZe
namespace Go.Proofs.YtbblgobamoabkaaGreatDoor
open Go Go.RowKit
set_option maxRecDepth 100000
set_option maxHeartbeats 4000000
set_option linter.unusedVariables false
set_option linter.unusedSimpArgs false
theorem y6k (h:Array Obj) (a b c:Obj):((h.push a).push b).push c=h++ #[a,b,c]:=by apply Array.ext';simp
theorem y3z (x:Int) (W:World):Calls Tryz.prog 152 #[.int .i64 x] W fun e w'=>e= .returned (.bool false)/\w'=W:=by
 go_enter Tryz.func152,Tryz.ntmps152
 go_wp2
 go_ret
 exact ⟨by simp,rfl⟩
theorem yxo (x y:Int) (W:World):Calls Tryz.prog 126 #[.int .i64 x, .int .i64 y] W fun e w'=>e= .returned (.int .i64 (cmpZ x y))/\w'=W:=by
 have hn:=y3z
 unfold cmpZ
 by_cases hl:x<y
 ·rw [if_pos hl]
  go_enter Tryz.func126,Tryz.ntmps126
  go_wp2_with (go_at_call 152;refine (hn _ _).mono ?_;rintro e w' ⟨rfl,rfl⟩)
  go_ret
  exact ⟨rfl,rfl⟩
 ·rw [if_neg hl]
  by_cases hg:y<x
  ·rw [if_pos hg]
   go_enter Tryz.func126,Tryz.ntmps126
   go_wp2_with (go_at_call 152;refine (hn _ _).mono ?_;rintro e w' ⟨rfl,rfl⟩)
   go_ret
   exact ⟨rfl,rfl⟩
  ·rw [if_neg hg]
   go_enter Tryz.func126,Tryz.ntmps126
   go_wp2_with (go_at_call 152;refine (hn _ _).mono ?_;rintro e w' ⟨rfl,rfl⟩)
   go_ret
   exact ⟨rfl,rfl⟩
theorem w_Or (x y:Int) (b cap:Nat) (W:World) (h0:W.cell? ⟨b,0,none⟩=some (.int .i64 x)) (h1:W.cell? ⟨b,1,none⟩=some (.int .i64 y)):
  Calls Tryz.prog 125 #[.slice (some ⟨b,0,none⟩) 2 cap] W fun e w'=>e= .returned (.int .i64 (if x≠0 then x else y))/\w'=W:=by
 by_cases hx:x=0
 ·subst hx
  rw [if_neg (by simp)]
  by_cases hy:y=0
  ·subst hy
   go_enter Tryz.func125,Tryz.ntmps125
   go_wp2
   refine wp_loop_rounds 3 ?_
   rw [rounds_succ]
   go_wp2
   rw [rounds_succ]
   go_wp2
   rw [rounds_succ]
   go_wp2
   go_ret
   exact ⟨rfl,rfl⟩
  ·have by0:(y !=0)=true:=by rw [bne_iff_ne];exact hy
   go_enter Tryz.func125,Tryz.ntmps125
   go_wp2
   refine wp_loop_rounds 3 ?_
   rw [rounds_succ]
   go_wp2
   rw [rounds_succ]
   go_wp2
   go_ret
   exact ⟨rfl,rfl⟩
 ·have bx0:(x !=0)=true:=by rw [bne_iff_ne];exact hx
  rw [if_pos hx]
  go_enter Tryz.func125,Tryz.ntmps125
  go_wp2
  refine wp_loop_rounds 3 ?_
  rw [rounds_succ]
  go_wp2
  go_ret
  exact ⟨rfl,rfl⟩
theorem y6l (x y:Int×Int) (W:World):Calls Tryz.prog 124 #[.agg (encT x).toArray, .agg (encT y).toArray] W fun e w'=>e= .returned (.int .i64 (cfT x y))/\ ∃q os',w'=Sort.grow (W.drewN q) os':=by
 have hc:=yxo
 have ho:=w_Or (cmpZ (bvA x.1) (bvA y.1)) (cmpZ (bvZ x.1) (bvZ y.1))
 unfold cfT
 generalize (if cmpZ (bvA x.1) (bvA y.1)≠0 then cmpZ (bvA x.1) (bvA y.1) else cmpZ (bvZ x.1) (bvZ y.1))=r at*
 unfold encT
 generalize bvA x.1=a1 at*
 generalize bvA y.1=a2 at*
 generalize bvZ x.1=z1 at*
 generalize bvZ y.1=z2 at*
 generalize x.2=c1 at*
 generalize y.2=c2 at*
 go_enter Tryz.func124,Tryz.ntmps124
 go_upto_region 1 with fail
 obtain ⟨W2,hW2⟩: ∃W2,(W.alloc (Obj.cells #[Value.int IntKind.i64 a1,Value.int IntKind.i64 z1,Value.int IntKind.i64 c1] 66)).alloc (Obj.cells #[Value.int IntKind.i64 a2,Value.int IntKind.i64 z2,Value.int IntKind.i64 c2] 66)=W2:=⟨_,rfl⟩
 have k0:W2.cell? ⟨W.heap.size,0,none⟩=some (.int .i64 a1):=by rw [←hW2];simp
 have k1:W2.cell? ⟨W.heap.size,1,none⟩=some (.int .i64 z1):=by rw [←hW2];simp
 have k2:W2.cell? ⟨W.heap.size+1,0,none⟩=some (.int .i64 a2):=by rw [←hW2];simp
 have k3:W2.cell? ⟨W.heap.size+1,1,none⟩=some (.int .i64 z2):=by rw [←hW2];simp
 rw [hW2]
 refine wp_region_still_tail 10 (by kernel_rfl) (by kernel_rfl) ?_
 simp only [List.take_succ_cons,List.take_zero,List.drop_succ_cons,List.drop_zero]
 generalize hd:({heap:=W2.heap,tape:=W2.tape,drawn:=W2.drawn+1,os:=W2.os,output:=W2.output}:World)=W3
 have j0:W3.cell? ⟨W.heap.size,0,none⟩=some (.int .i64 a1):=by rw [←hd];exact k0
 have j1:W3.cell? ⟨W.heap.size,1,none⟩=some (.int .i64 z1):=by rw [←hd];exact k1
 have j2:W3.cell? ⟨W.heap.size+1,0,none⟩=some (.int .i64 a2):=by rw [←hd];exact k2
 have j3:W3.cell? ⟨W.heap.size+1,1,none⟩=some (.int .i64 z2):=by rw [←hd];exact k3
 still_step
 still_step
 still_step
 still_step
 still_call (hc _ _ _)
 still_step
 still_step
 still_step
 still_step
 still_call (hc _ _ _)
 refine wpStill_nil ?_
 go_wp2_with (go_at_call 125;refine (ho _ _ _ ?_ ?_).mono ?_;rotate_left 2;rintro e w' ⟨rfl,rfl⟩)
 ·go_ret
  refine ⟨rfl,1, #[.cells #[.int .i64 a1, .int .i64 z1, .int .i64 c1] 66 (0,0), .cells #[.int .i64 a2, .int .i64 z2, .int .i64 c2] 66 (0,0), .cells #[.int .i64 (cmpZ a1 a2), .int .i64 (cmpZ z1 z2)] 3 (0,0)],?_⟩
  rw [←hd,←hW2]
  exact congrArg (fun h=>(⟨h,W.tape,W.drawn+1,W.os,W.output⟩:World)) (y6k W.heap _ _ _)
 ·simp
 ·simp
theorem yxp {id T:Nat} {q:List (Int×Int)} {fr:Fr} {H:Hp} {K:AV->Fr->Hp->Prop} (hid:hget H id=some (.cells T (.lst (bvC q)))) (hq:q.length<=1000000)
  (hK: ∀r:List (Int×Int),r.Perm q->r.Pairwise (fun a b=>a.1<=b.1)->K (.tup []) fr (hset H id (.cells T (.lst (bvC r))))):ych Tryz.prog 123 [.sl 3 id 0 q.length, .fn 124 []] fr H K:=
 yu1 y07 ⟨_,Tryz.func123,rfl,by decide⟩ Tryz.isAgg66 Tryz.sizeOf66 (enters_of Tryz.func124 (by kernel_rfl) rfl) y6l hid hq hK
end Go.Proofs.YtbblgobamoabkaaGreatDoor
namespace Go.Proofs.YtbblgobamoabkaaGreatDoor
open Go Go.RowKit
set_option maxRecDepth 100000
set_option maxHeartbeats 8000000
set_option linter.unusedVariables false
set_option linter.unusedSimpArgs false
theorem yxq (m:SumM) (sn:List Nat) {b:Nat} {q:Int×Int×Int} (h:m[b]?=some q):outS m (sn++[b])=outS m sn++if suV q.2=0 then [] else [(q.1,suV q.2)]:=by
 rw [yxh]
 have:m.getD b (0,0,0)=q:=by rw [List.getD_eq_getElem?_getD,h];rfl
 rw [this];rfl
theorem rngP {sn:List Nat} {N:Nat} (hn:sn.Nodup) (hr: ∀i∈sn,i<N) (ha: ∀i,i<N->i∈sn):sn.Perm (List.range N):=
 (List.perm_ext_iff_of_nodup hn List.nodup_range).2 fun a=>⟨fun h=>List.mem_range.2 (hr a h),fun h=>ha a (List.mem_range.1 h)⟩
abbrev gaB:AObj:= .cells 29 (.lst [.bool false, .nils])
abbrev gaH (r:List (Int×Int)):Hp:=[(6, .cells 29 (.lst [.bool false, .sl 3 5 0 r.length])),(5, .cells 66 (.lst (bvC r))),(4, .cells 29 (.lst [.bool false, .sl 3 5 0 r.length])),(2,gaB)]
def gaO:Hp:=[(2, .gone)]
theorem ymj {H:Hp} (h:(hget H 2).isSome=true): ∀i,(hget gaO i).isSome=true->(hget H i).isSome=true:=fun i hi=>by
 by_cases h2:2=i
 ·subst h2;exact h
 ·simp only [gaO,hget] at hi
  rw [if_neg h2] at hi;cases hi
theorem yxr (r:List (Int×Int)) (H:Hp):LeA (.agg [.bool false, .ro 3 r.length (.lst (List.take (r.length*3) (List.map (snap H 4) (bvC r))))]) (bvP false r):=
 LeA.of (by rw [ya8,List.take_of_length_le (by rw [yal];omega)])
abbrev gaL (m:SumM) (sn:List Nat):Hp:=[(7, .iter 3 m.length sn m.length),(6, .cells 29 (.lst [.bool false, .sl 3 5 0 (outS m sn).length])),(5, .cells 66 (.lst (bvC (outS m sn)))),(4,gaB),(3, .gmap suT m.length (gmL 0 m)),(2,gaB)]
theorem ykw (m:SumM) (j:Nat) (hm:MOk m j) (hj:j<=10000000000) (hl:m.length<=1000000) (hs: ∀e,-1125899906842624<=mVal m e/\mVal m e<=1125899906842624) (hx: ∀e,mVal m e≠0->(-1048576<=bvA e/\bvA e<=1048576)/\ -1048576<=bvZ e/\bvZ e<=1048576) {mid:Nat} {fr fr':Fr} {H:Hp} {K:AV->Fr->Hp->Prop} (hw:Wk ((0, .mp mid)::lft fr) H ((0, .mp 3)::lft fr') [(3, .gmap suT m.length (gmL 0 m)),(2,gaB)]) (hfr:fr'.all (fun q=>s3 gaO q.2)=true) (hc5:fcut 5 (lft fr')=lft fr')
  (hK: ∀r,yak r (mVal m)->r.length<=1000000->K (.agg [.bool false, .sl 3 5 0 r.length]) fr' (gaH r)):
  ych Tryz.prog 82 [.mp mid] fr H K:=by
 have gl:=ysx 0 m
 refine ych.intro [.cell 2 29] Tryz.func82 rfl rfl (by decide) (by simp [Tryz.ntmps82]) ?_;rw [Tryz.ntmps82]
 refine WpA.wk hw ?_
 repeat' (first|omega|(try apply yaa);simp only [go_sem,sevalprocAttr]|apply yab<;>(intro h_;(try simp only [h_]);revert h_)|apply And.intro|with_reducible intro h_|trivial|simp only [go_sem,la2];omega)
 refine SpL.mapLen (kt:=117) (et:=119) rfl (by simp only [go_sem,sevalprocAttr]) (by simp only [go_sem,sevalprocAttr]) rfl rfl ?_
 repeat' (first|omega|(try apply yaa);simp only [go_sem,sevalprocAttr,gl]|apply yab<;>(intro h_;(try simp only [h_]);revert h_)|apply And.intro|with_reducible intro h_|trivial|simp only [go_sem,la2];omega)
 refine SpL.range (kt:=117) (et:=119) rfl (by simp only [go_sem,sevalprocAttr]) (by simp only [go_sem,sevalprocAttr]) rfl rfl ?_
 repeat' (first|omega|(try apply yaa);simp only [go_sem,sevalprocAttr]|apply yab<;>(intro h_;(try simp only [h_]);revert h_)|apply And.intro|with_reducible intro h_|trivial|simp only [go_sem,la2];omega)
 refine yaj.intro (fun n fr1 H1=> ∃sn:List Nat,sn.Nodup/\(∀i∈sn,i<m.length)/\n=m.length-sn.length/\fr1=[(13, .ptr 7 0),(3, .ptr 6 0),(2, .ptr 4 0)]++lft fr'/\
  H1=gaL m sn) ?_ ?_
 ·refine ⟨_,_,_,Wk.appC (A:=[(13, .ptr 7 0),(3, .ptr 6 0),(2, .ptr 4 0)]) hfr ?_ ?_ (ymj rfl) (fun t ht=>?_) rfl,[], .nil,(fun i hi=>by cases hi),rfl,rfl,rfl⟩
  ·simp only [go_sem,sevalprocAttr]
  ·simp only [go_sem,sevalprocAttr,↓ycu]
   all_goals first|exact ygt _ _ _|exact ⟨rfl,rfl,rfl⟩
  ·simp only [fget]
   repeat rw [if_neg (by omega)]
 rintro n fr1 H1 ⟨sn,hn,hr,rfl,rfl,rfl⟩
 repeat' (first|omega|(try apply yaa);simp only [go_sem,sevalprocAttr]|apply yab<;>(intro h_;(try simp only [h_]);revert h_)|apply And.intro|with_reducible intro h_|trivial|simp only [go_sem,la2];omega)
 refine SpL.nextG (mid:=3) (iid:=7) (since:=m.length) (last:=m.length) (t:=suT) (ck:=m.length) (seen:=sn) (l:=gmL 0 m) rfl (by simp only [go_sem,sevalprocAttr]) rfl rfl rfl (fun q hq=>?_) (Nat.le_refl _) (fun hall=>?_) fun q hq hqn=>?_
 ·obtain ⟨k,u,h1,rfl⟩:=ynd hq
  have:=(List.getElem?_eq_some_iff.1 h1).1
  dsimp only;omega
 ·have hp:sn.Perm (List.range m.length):=rngP hn hr fun i hi=>by
   have:=hall _ (yxm 0 m i m[i] (List.getElem?_eq_getElem hi))
   simpa using this
  repeat' (first|omega|(try apply yaa);simp only [go_sem,sevalprocAttr]|apply yab<;>(intro h_;(try simp only [h_]);revert h_)|apply And.intro|with_reducible intro h_|trivial|simp only [go_sem,la2];omega)
  have hol:=yli m sn
  have hsl:=rngS hn hr
  refine ⟨yae.inline (yxp (q:=outS m sn) rfl (by omega) fun r hpr ho=>?_)⟩
  have hR:=yxk hm.nd hp hpr ho
  have hlr:r.length=(outS m sn).length:=hpr.length_eq
  have hK:=hK r hR (by omega)
  simp only [go_sem,sevalprocAttr]
  rw [←hlr]
  refine WpA.wk (fr':=[(3, .ptr 6 0),(2, .ptr 4 0)]++lft fr') (H':=[(6, .cells 29 (.lst [.bool false, .sl 3 5 0 r.length])),(5, .cells 66 (.lst (bvC r))),(4,gaB),(2,gaB)]) (Wk.appC hfr ?_ ?_ (ymj rfl) (fun t ht=>?_) rfl) ?_
  ·simp only [go_sem,sevalprocAttr]
  ·simp only [go_sem,sevalprocAttr,yad]
  ·simp only [fget]
   repeat rw [if_neg (by omega)]
  repeat' (first|omega|(try apply yaa);simp only [go_sem,sevalprocAttr]|apply yab<;>(intro h_;(try simp only [h_]);revert h_)|apply And.intro|with_reducible intro h_|trivial|simp only [go_sem,la2];omega)
  all_goals exact hK
 ·obtain ⟨k,u,h1,rfl⟩:=ynd hq
  have hk:k<m.length:=(List.getElem?_eq_some_iff.1 h1).1
  have hkn:k∉sn:=by simpa using hqn
  have hbk:=yoc 0 m k u h1
  rw [Nat.zero_add] at hbk
  have hu:u∈m:=List.mem_of_getElem? h1
  have hB:=hm.bn u hu
  have hv:mVal m u.1=suV u.2:=ysv hm.nd hu
  have hsv:=hs u.1
  rw [hv] at hsv
  have gk:gkA suT (kE u.1)= .agg [I (bvA u.1),I (bvZ u.1)]:=by unfold gkA;rw [if_neg (by decide),ydi]
  have hnd:(sn++[k]).Nodup:=by rw [List.nodup_append];exact ⟨hn,by simp,fun a ha b hb h=>hkn (by simp at hb;rw [←hb,←h];exact ha)⟩
  have hrd: ∀i∈sn++[k],i<m.length:=fun i hi=>by
   rcases List.mem_append.1 hi with hi|hi
   ·exact hr i hi
   ·simp at hi;omega
  have hsn:=rngS hnd hrd
  rw [List.length_append] at hsn
  simp only [List.length_cons,List.length_nil] at hsn
  have hp3:=yxn 0 m
  simp only [go_sem,sevalprocAttr] at hp3
  have eo:=yxq m sn h1
  have hSm:=yrt u.2.1 u.2.2 (by omega) (by omega) (by unfold suV at hsv;omega)
  rw [show u.2.1*33554432+u.2.2=suV u.2 from rfl] at hSm
  have hx':=hx u.1
  rw [hv] at hx'
  dsimp only
  rw [gk,Nat.zero_add]
  have hlc:=yal (outS m sn)
  have hol:=yli m sn
  have gt:(suT<1000000000)=False:=eq_false (by decide)
  have gla:(sn++[k]).getLast?=some k:=by simp
  have wA:=ybz (bvA u.1) 1048576 (by decide) (by decide)
  have wZ:=ybz (bvZ u.1) 1048576 (by decide) (by decide)
  by_cases h0:suV u.2=0
  ·have b0:(suV u.2==0)=true:=by rw [h0];rfl
   rw [if_pos h0,List.append_nil] at eo
   repeat' (first|omega|(try apply yaa);simp only [go_sem,sevalprocAttr,gla,hbk,gt,ydi,b0]|(refine ⟨yae.fn (r:=?_) rfl ?_ ?_⟩;rotate_left;assumption)|(refine ⟨yai.fn (r:=?_) rfl ?_ ?_⟩;rotate_left;assumption)|apply yab<;>(intro h_;(try simp only [h_]);revert h_)|apply And.intro|with_reducible intro h_|trivial|simp only [go_sem,la2];omega)
   refine ⟨_,_,_,?_,Wk.appC (A:=[(13, .ptr 7 0),(3, .ptr 6 0),(2, .ptr 4 0)]) hfr ?_ ?_ (ymj rfl) (fun t ht=>?_) rfl,sn++[k],hnd,hrd,rfl,rfl,rfl⟩
   ·rw [List.length_append];simp only [List.length_cons,List.length_nil];omega
   ·simp only [go_sem,sevalprocAttr]
   ·simp only [go_sem,sevalprocAttr,eo,yad]
    all_goals exact ycn _ (fun _ _ _ _=>rfl) _ _
   ·simp only [fget]
    repeat rw [if_neg (by omega)]
    try rw [hc5]
  ·have b0:(suV u.2==0)=false:=by rw [beq_eq_false_iff_ne];exact h0
   have hx2:=hx' h0
   rw [if_neg h0] at eo
   rw [decide_eq_true (by omega),decide_eq_true (by omega),Bool.and_self] at wA wZ
   repeat' (first|omega|(try apply yaa);simp only [go_sem,sevalprocAttr,gla,hbk,gt,ydi,hp3,hlc,b0]|(refine ⟨yae.fn (r:=?_) rfl ?_ ?_⟩;rotate_left;assumption)|(refine ⟨yai.fn (r:=?_) rfl ?_ ?_⟩;rotate_left;assumption)|apply yab<;>(intro h_;(try simp only [h_]);revert h_)|apply And.intro|with_reducible intro h_|trivial|simp only [go_sem,la2];omega)
   refine ⟨_,_,_,?_,Wk.appC (A:=[(13, .ptr 7 0),(3, .ptr 6 0),(2, .ptr 4 0)]) hfr ?_ ?_ (ymj rfl) (fun t ht=>?_) rfl,sn++[k],hnd,hrd,rfl,rfl,rfl⟩
   ·rw [List.length_append];simp only [List.length_cons,List.length_nil];omega
   ·simp only [go_sem,sevalprocAttr]
   ·simp only [go_sem,sevalprocAttr,eo,yad,ycz,ycq,List.all_append,bvC]
    all_goals exact ycn _ (fun _ _ _ _=>rfl) _ _
   ·simp only [fget]
    repeat rw [if_neg (by omega)]
    try rw [hc5]
end Go.Proofs.YtbblgobamoabkaaGreatDoor
namespace Go.Proofs.YtbblgobamoabkaaGreatDoor
set_option linter.unusedSimpArgs false
set_option linter.unusedVariables false
def SupB (f:Int->Int) (N:Int):Prop:= ∀e,f e≠0->(-N<=bvA e/\bvA e<=N)/\ -N<=bvZ e/\bvZ e<=N
def BndB (f:Int->Int):Prop:= ∀e,-1125899906842624<=f e/\f e<=1125899906842624
theorem SupB.mono {f:Int->Int} {N M:Int} (h:SupB f N) (hm:N<=M):SupB f M:=fun e he=>by have:=h e he;omega
theorem SupB.add {f g:Int->Int} {N:Int} (hf:SupB f N) (hg:SupB g N) (c:Int):SupB (fun e=>f e+c*g e) N:=fun e he=>by
 by_cases h:f e=0
 ·exact hg e fun h'=>he (by simp [h,h'])
 ·exact hf e h
theorem y5i {e e':Int} {N M:Int} (h:(-N<=bvA (e-e')/\bvA (e-e')<=N)/\ -N<=bvZ (e-e')/\bvZ (e-e')<=N) (h': -M<=bvZ e'/\bvZ e'<=M) (hN:N<=1048576) (hM:M<=1048576):bvA e=bvA (e-e')+bvA e'/\bvZ e=bvZ (e-e')+bvZ e':=by
 have h1:=yna (bvA (e-e')) (bvZ (e-e')) (bvA e') (bvZ e')
 rw [ycb,ycb,show e-e'+e'=e by omega] at h1
 have h2:bvA e=bvA (bvE (bvA (e-e')+bvA e') (bvZ (e-e')+bvZ e')):=congrArg bvA h1
 have h3:bvZ e=bvZ (bvE (bvA (e-e')+bvA e') (bvZ (e-e')+bvZ e')):=congrArg bvZ h1
 rw [yf2 (by omega)] at h2
 rw [ydx (by omega)] at h3
 exact ⟨h2,h3⟩
theorem SupB.shift {f:Int->Int} {N M a z:Int} (h:SupB f N) (ha: -M<=a/\a<=M) (hz: -M<=z/\z<=M) (hN:N<=1048576) (hM:M<=1048576):SupB (fun e=>f (e-bvE a z)) (N+M):=fun e he=>by
 have h1:=h _ he
 have h2:=y5i h1 (M:=M) (by rw [ydx (by omega)];exact hz) hN hM
 rw [yf2 (by omega),ydx (by omega)] at h2
 omega
theorem yak.lenB {p:List (Int×Int)} {f:Int->Int} (h:yak p f) {N:Int} (hs:SupB f N) (hN:N<=150):p.length<=100000:=by
 have hm: ∀t∈p,(-N<=bvA t.1/\bvA t.1<=N)/\ -N<=bvZ t.1/\bvZ t.1<=N:=fun t ht=>hs _ (h.mem ht).2
 have ha:AscN (p.map fun t=>(bvA t.1*301+bvZ t.1,t.2)):=by
  refine ⟨?_,fun t ht=>?_⟩
  ·rw [List.pairwise_map]
   refine h.asc.asc.imp_of_mem fun {a b} ma mb hab=>?_
   have h1:=hm a ma
   have h2:=hm b mb
   rcases (ymh _ _).1 hab with h3|⟨h3,h4⟩
   ·show bvA a.1*301+bvZ a.1<bvA b.1*301+bvZ b.1
    omega
   ·show bvA a.1*301+bvZ a.1<bvA b.1*301+bvZ b.1
    omega
  ·obtain ⟨u,hu,rfl⟩:=List.mem_map.1 ht
   exact h.asc.nz u hu
 have:=ha.len (a:= -45300) (b:=45300) fun t ht=>by
  obtain ⟨u,hu,rfl⟩:=List.mem_map.1 ht
  have:=hm u hu
  show-45300<=bvA u.1*301+bvZ u.1/\bvA u.1*301+bvZ u.1<=45300
  omega
 simp only [List.length_map] at this
 omega
theorem yak.memB {p:List (Int×Int)} {f:Int->Int} (h:yak p f) {N:Int} (hs:SupB f N) {t:Int×Int} (ht:t∈p):(-N<=bvA t.1/\bvA t.1<=N)/\ -N<=bvZ t.1/\bvZ t.1<=N:=hs _ (h.mem ht).2
theorem ybo {f:Int->Int} {N:Int} (hs:SupB f N) (hN:N<=1048576): ∃p,yak p f:=by
 have hs2: ∀e,f e≠0-> -20000000000000<=e/\e<=20000000000000:=fun e he=>by
  have h1:=hs e he
  have h2:=ycb e
  unfold bvE at h2
  omega
 obtain ⟨M,hM⟩: ∃M:Nat,M=20000000000000:=⟨_,rfl⟩
 refine ⟨tmI (-(M:Int)) ((List.range (2*M+1)).map fun (i:Nat)=>f ((i:Int)-M)),yst _ _,fun e=>?_⟩
 rw [ysu]
 by_cases h0:f e=0
 ·rw [h0]
  split
  ·by_cases h1:(e- -(M:Int)).toNat<2*M+1
   ·simp only [List.getD_eq_getElem?_getD,List.getElem?_map,List.getElem?_range h1,Option.map_some,Option.getD_some]
    rw [show (((e- -(M:Int)).toNat:Nat):Int)-M=e by omega,h0]
   ·rw [List.getD_eq_getElem?_getD,List.getElem?_eq_none (by simp;omega)];rfl
  ·rfl
 ·have:=hs2 e h0
  rw [if_pos (by omega)]
  have h1:(e- -(M:Int)).toNat<2*M+1:=by omega
  simp only [List.getD_eq_getElem?_getD,List.getElem?_map,List.getElem?_range h1,Option.map_some,Option.getD_some]
  rw [show (((e- -(M:Int)).toNat:Nat):Int)-M=e by omega]
theorem yak.uniq {p q:List (Int×Int)} {f:Int->Int} (h:yak p f) (h':yak q f):p=q:=AscN.ext h.asc h'.asc fun e=>by rw [h.cf,h'.cf]
theorem yio (d:Int): ∀(p:List (Int×Int)) (e:Int),cfL (p.map fun t=>(t.1+d,t.2)) e=cfL p (e-d)
 |[],_=>rfl
 |t::p,e=>by
  simp only [List.map_cons,cfL]
  rw [yio d p e]
  by_cases h:t.1+d=e
  ·rw [if_pos h,if_pos (by omega)]
  ·rw [if_neg h,if_neg (by omega)]
theorem yak.shift {p:List (Int×Int)} {f:Int->Int} (h:yak p f) (d:Int):yak (p.map fun t=>(t.1+d,t.2)) (fun e=>f (e-d)):=by
 refine ⟨⟨?_,fun t ht=>?_⟩,fun e=>by rw [yio,h.cf]⟩
 ·rw [List.pairwise_map]
  exact h.asc.asc.imp fun {a b} hab=>by show a.1+d<b.1+d;omega
 ·obtain ⟨u,hu,rfl⟩:=List.mem_map.1 ht
  exact h.asc.nz u hu
end Go.Proofs.YtbblgobamoabkaaGreatDoor
namespace Go.Proofs.YtbblgobamoabkaaGreatDoor
open Go Go.RowKit
set_option maxRecDepth 100000
set_option maxHeartbeats 8000000
set_option linter.unusedVariables false
set_option linter.unusedSimpArgs false
theorem yqe {p q r:List (Int×Int)} {f g:Int->Int} {N:Int} (c:Int) (hc:c=1\/c= -1) (hp:yak p f) (hq:yak q g) (sp:SupB f N) (sq:SupB g N) (hN:N<=150) (bp:BndB f) (bq:BndB g) (hr:yak r (fun e=>f e+c*g e)) (br:BndB fun e=>f e+c*g e):
  Fn Tryz.prog 51 [bvP false p,bvP false q,I c] (bvP false r):=by
 have lp:=hp.lenB sp hN
 have lq:=hq.lenB sq hN
 have cp:=yal p
 have cq:=yal q
 have mp: ∀t∈p,-1125899906842624<=t.2/\t.2<=1125899906842624:=fun t ht=>by rw [(hp.mem ht).1];exact bp _
 have mq: ∀t∈q,-1125899906842624<=t.2/\t.2<=1125899906842624:=fun t ht=>by rw [(hq.mem ht).1];exact bq _
 have M1:=MOk.nil.add (c:=1) (d:=0) (p:=p) fun t ht=>by have:=mp t ht;omega
 have M2:=M1.add (c:=c) (d:=0) (p:=q) fun t ht=>by have:=mq t ht;rcases hc with rfl|rfl<;>omega
 have hv: ∀e,mVal (mAdd c 0 (mAdd 1 0 [] p) q) e=f e+c*g e:=fun e=>by
  rw [yin,yin,ylg,Int.sub_zero,hp.cf,hq.cf];omega
 have sr:SupB (fun e=>f e+c*g e) N:=sp.add sq c
 refine Fn.introL [.cell 6 29] Tryz.func51 rfl rfl (by decide) (by simp [Tryz.ntmps51]) ?_;rw [Tryz.ntmps51]
 repeat' (first|omega|(try apply yaa);simp only [go_sem,sevalprocAttr]|apply yab<;>(intro h_;(try simp only [h_]);revert h_)|apply And.intro|with_reducible intro h_|trivial|simp only [go_sem,la2];omega)
 refine SpL.makeMap (kt:=117) (et:=119) (n:=p.length+q.length) rfl (by simp only [go_sem,sevalprocAttr]) (by simp only [go_sem,sevalprocAttr]) rfl ?_
 repeat' (first|omega|(try apply yaa);simp only [go_sem,sevalprocAttr]|apply yab<;>(intro h_;(try simp only [h_]);revert h_)|apply And.intro|with_reducible intro h_|trivial|simp only [go_sem,la2];omega)
 refine ⟨yae.inline (yqd 1 (.inl rfl) p p q lp mp [] 0 MOk.nil (by omega) (by simp only [go_sem,sevalprocAttr,suO,yad]) ?_)⟩
 repeat' (first|omega|(try apply yaa);simp only [go_sem,sevalprocAttr]|apply yab<;>(intro h_;(try simp only [h_]);revert h_)|apply And.intro|with_reducible intro h_|trivial|simp only [go_sem,la2];omega)
 refine ⟨yae.inline (yqd c hc q p q lq mq (mAdd 1 0 [] p) (0+p.length) M1 (by omega) (by simp only [go_sem,sevalprocAttr,suO,yad]) ?_)⟩
 repeat' (first|omega|(try apply yaa);simp only [go_sem,sevalprocAttr]|apply yab<;>(intro h_;(try simp only [h_]);revert h_)|apply And.intro|with_reducible intro h_|trivial|simp only [go_sem,la2];omega)
 refine ⟨yae.inline (ykw (mAdd c 0 (mAdd 1 0 [] p) q) (0+p.length+q.length) M2 (by omega) (by have:=M2.len;omega) (fun e=>by rw [hv];exact br e) (fun e he=>by rw [hv] at he;have:=sr e he;omega) (fr':=[(6, .ptr 2 0)]) (Wk.sub ?_ ?_) (by simp only [go_sem,sevalprocAttr,gaO]) rfl fun r' hr' hl'=>?_)⟩
 ·simp only [go_sem,sevalprocAttr]
 ·simp only [go_sem,sevalprocAttr,↓ycu]
  all_goals exact ycn _ (fun _ _ _ _=>rfl) _ _
 obtain rfl:r'=r:=AscN.ext hr'.asc hr.asc fun e=>by rw [hr'.cf,hr.cf,hv]
 repeat' (first|omega|(try apply yaa);simp only [go_sem,sevalprocAttr]|apply yab<;>(intro h_;(try simp only [h_]);revert h_)|apply And.intro|with_reducible intro h_|trivial|simp only [go_sem,la2];omega)
 all_goals first
  |exact yfl _ _ ‹_›
  |exact yxr r' _
  |(rw [yal];omega)
theorem y30 {p q r:List (Int×Int)} {f g:Int->Int} {N:Int} (hp:yak p f) (hq:yak q g) (sp:SupB f N) (sq:SupB g N) (hN:N<=150) (bp:BndB f) (bq:BndB g) (hr:yak r (fun e=>f e+1*g e)) (br:BndB fun e=>f e+1*g e):
  Fn Tryz.prog 16 [bvP false p,bvP false q] (bvP false r):=by
 have h:=yqe 1 (.inl rfl) hp hq sp sq hN bp bq hr br
 refine Fn.introL [.cell 4 29] Tryz.func16 rfl rfl (by decide) (by simp [Tryz.ntmps16]) ?_;rw [Tryz.ntmps16]
 repeat' (first|omega|(try apply yaa);simp only [go_sem,sevalprocAttr,yad]|(refine ⟨yae.fn (r:=?_) rfl ?_ ?_⟩;rotate_left;assumption)|(refine ⟨yai.fn (r:=?_) rfl ?_ ?_⟩;rotate_left;assumption)|apply yab<;>(intro h_;(try simp only [h_]);revert h_)|apply And.intro|with_reducible intro h_|trivial|simp only [go_sem,la2];omega)
 all_goals exact LeA.refl _
theorem ysy {p q r:List (Int×Int)} {f g:Int->Int} {N:Int} (hp:yak p f) (hq:yak q g) (sp:SupB f N) (sq:SupB g N) (hN:N<=150) (bp:BndB f) (bq:BndB g) (hr:yak r (fun e=>f e+ -1*g e)) (br:BndB fun e=>f e+ -1*g e):
  Fn Tryz.prog 31 [bvP false p,bvP false q] (bvP false r):=by
 have h:=yqe (-1) (.inr rfl) hp hq sp sq hN bp bq hr br
 refine Fn.introL [.cell 4 29] Tryz.func31 rfl rfl (by decide) (by simp [Tryz.ntmps31]) ?_;rw [Tryz.ntmps31]
 repeat' (first|omega|(try apply yaa);simp only [go_sem,sevalprocAttr,yad]|(refine ⟨yae.fn (r:=?_) rfl ?_ ?_⟩;rotate_left;assumption)|(refine ⟨yai.fn (r:=?_) rfl ?_ ?_⟩;rotate_left;assumption)|apply yab<;>(intro h_;(try simp only [h_]);revert h_)|apply And.intro|with_reducible intro h_|trivial|simp only [go_sem,la2];omega)
 all_goals exact LeA.refl _
end Go.Proofs.YtbblgobamoabkaaGreatDoor
