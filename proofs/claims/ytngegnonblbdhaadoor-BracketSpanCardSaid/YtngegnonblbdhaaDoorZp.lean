/- A row of rows, all of a call's own: each row has an object of its own. -/
import Derived.Test.YtngegnonblbdhaaDoorZo
import Derived.Test.YtngegnonblbdhaaDoorZf
import Derived.Test.YtngegnonblbdhaaDoorPl
import Derived.Test.YtngegnonblbdhaaDoorSq
namespace Go.Proofs.YtngegnonblbdhaaDoor
open Go Go.RowKit
set_option maxRecDepth 100000
set_option maxHeartbeats 8000000
set_option linter.unusedVariables false
set_option linter.unusedSimpArgs false
def gpR (part:List Int):Nat->Nat->List Int
 |0,_=>[]
 |c+1,p=>if part.getD c 0=(p:Int) then gpR part c p++[(c:Int)] else gpR part c p
theorem yqv (part:List Int): ∀c p,(gpR part c p).length<=c
 |0,_=>by simp [gpR]
 |c+1,p=>by
  have:=yqv part c p
  simp only [gpR]
  split
  ·rw [List.length_append];simp;omega
  ·omega
def gpV (g:Nat->List Int) (p:Nat):AV:=if (g p).length=0 then .nils else .sl 1 (10+p) 0 (g p).length
def gpX (g:Nat->List Int) (k:Nat):List AV:=(List.range k).map (gpV g)
def gpH (g:Nat->List Int):Nat->Hp
 |0=>[]
 |k+1=>if (g k).length=0 then gpH g k else (10+k, .cells 3 (.ints (g k)))::gpH g k
theorem yik (g:Nat->List Int) (k:Nat):(gpX g k).length=k:=by simp [gpX]
theorem y0v (g:Nat->List Int) {k p:Nat} (h:p<k):(gpX g k).getD p .any=gpV g p:=by simp [gpX,List.getD_eq_getElem?_getD,h]
theorem yil (g:Nat->List Int): ∀k i,hget (gpH g k) i=if 10<=i/\i<10+k/\(g (i-10)).length≠0 then some (.cells 3 (.ints (g (i-10)))) else none
 |0,i=>by simp only [gpH,hget];rw [if_neg (by omega)]
 |k+1,i=>by
  have ih:=yil g k i
  simp only [gpH]
  by_cases h0:(g k).length=0
  ·rw [if_pos h0,ih]
   by_cases e:i=10+k
   ·subst e
    rw [if_neg (by omega),if_neg]
    rintro ⟨_,_,h⟩
    rw [show 10+k-10=k by omega] at h
    exact h h0
   ·by_cases h:10<=i/\i<10+k/\(g (i-10)).length≠0
    ·rw [if_pos h,if_pos ⟨h.1,by omega,h.2.2⟩]
    ·rw [if_neg h,if_neg fun h'=>h ⟨h'.1,by omega,h'.2.2⟩]
  ·rw [if_neg h0]
   simp only [hget]
   by_cases e:10+k=i
   ·subst e
    rw [if_pos rfl,if_pos ⟨by omega,by omega,by rw [show 10+k-10=k by omega];exact h0⟩,show 10+k-10=k by omega]
   ·rw [if_neg e,ih]
    by_cases h:10<=i/\i<10+k/\(g (i-10)).length≠0
    ·rw [if_pos h,if_pos ⟨h.1,by omega,h.2.2⟩]
    ·rw [if_neg h,if_neg fun h'=>h ⟨h'.1,by omega,h'.2.2⟩]
theorem gpH_row {g:Nat->List Int} {k p:Nat} (h:p<k) (h0:(g p).length≠0):hget (gpH g k) (10+p)=some (.cells 3 (.ints (g p))):=by
 rw [yil,show 10+p-10=p by omega,if_pos ⟨by omega,by omega,h0⟩]
theorem yqw (g:Nat->List Int): ∀k,hnew (gpH g k)<=10+k
 |0=>by simp [gpH,hnew]
 |k+1=>by
  have:=yqw g k
  simp only [gpH]
  split
  ·omega
  ·simp only [hnew];omega
abbrev gpW (g:Nat->List Int) (k:Nat):Hp:=(1000000, .cells 22 (.lst (gpX g k)))::gpH g k
def gpO:Hp:=[(1000000, .gone)]
theorem yow {k:Nat} (h:k≠1000000):(hget gpO k).isSome=false:=by
 simp only [gpO,hget];rw [if_neg fun e=>h e.symm];rfl
theorem y2e (g:Nat->List Int) (k:Nat): ∀i o,hget (gpW g k) i=some o->sO (gpW g k) o=true:=by
 intro i o h
 simp only [hget] at h
 split at h
 ·cases h
  refine List.all_eq_true.2 fun x hx=>?_
  obtain ⟨p,hp,rfl⟩:=List.mem_map.1 hx
  have hpk:=List.mem_range.1 hp
  unfold gpV
  split
  ·rfl
  ·rename_i h0
   have h1:=gpH_row hpk h0
   simp only [s3,s2,s1,hget]
   split
   ·rfl
   ·rw [h1];rfl
 ·rw [yil] at h
  split at h
  ·cases h;rfl
  ·cases h
theorem yx3 {F A:Fr} {X:Hp} {g:Nat->List Int} {k:Nat} (nid r:Nat) {xs:List AV} (hn:1000001<=nid) (hr:10<=r/\r<1000000) (hk:k<=900000) (h0:hget X 1000000=some (.cells 22 (.lst xs))) (hx:xs.map (swV nid r 4)=gpX g k)
  (hrow: ∀p,p<k->(g p).length≠0->hget X (swI nid r (10+p))=some (.cells 3 (.ints (g p)))) (hA:subF F gpO A):Wk F X A (gpW g k):=by
 have on:=yow (k:=nid) (by omega)
 have or':=yow (k:=r) (by omega)
 refine (Wk.swap nid r F X).trans (Wk.subG (fun t=>?_) fun i o h=>⟨?_,y2e g k i o h⟩)
 ·rw [yjj]
  rcases yff hA t with e|⟨e,e2⟩
  ·exact .inl e
  ·right
   rw [←e]
   refine ⟨(y0u on or' 1 _ e2).symm,yqu (fun j hj=>?_) _ e2⟩
   simp only [gpO,hget] at hj
   split at hj
   ·rename_i e3;subst e3;rfl
   ·cases hj
 ·rw [yl7]
  simp only [hget] at h
  split at h
  ·rename_i e
   subst e
   cases h
   rw [show swI nid r 1000000=1000000 by unfold swI;rw [if_neg (by omega),if_neg (by omega)],h0]
   simp only [Option.map_some,swO,hx]
  ·rw [yil] at h
   split at h
   ·rename_i hi
    cases h
    have:=hrow (i-10) (by omega) hi.2.2
    rw [show 10+(i-10)=i by omega] at this
    rw [this];rfl
   ·cases h
theorem yqx {g:Nat->List Int} {nid r p:Nat} (h1:10+p≠nid) (h2:10+p≠r):swV nid r 4 (gpV g p)=gpV g p:=by
 unfold gpV
 split
 ·rfl
 ·simp only [swV,swI]
  rw [if_neg h1,if_neg h2]
theorem y0w {g g':Nat->List Int} {k p nid:Nat} (hp:p<k) (hn:10+k<=nid) (h1:(g' p).length=1) (h2: ∀q,q≠p->g' q=g q):((gpX g k).set p (.sl 1 nid 0 1)).map (swV nid (10+p) 4)=gpX g' k:=by
 apply List.ext_getElem?
 intro i
 rw [List.getElem?_map,List.getElem?_set,yik]
 by_cases e:p=i
 ·subst e
  rw [if_pos rfl,if_pos hp]
  simp only [gpX,List.getElem?_map,List.getElem?_range hp,Option.map_some,swV,swI,if_true]
  unfold gpV
  rw [if_neg (by omega),h1]
 ·rw [if_neg e]
  by_cases hi:i<k
  ·simp only [gpX,List.getElem?_map,List.getElem?_range hi,Option.map_some]
   rw [yqx (by omega) (by omega)]
   unfold gpV
   rw [h2 i (Ne.symm e)]
  ·simp [gpX,hi]
theorem y0x {g g':Nat->List Int} {k p r nid:Nat} (hp:p<k) (hn:10+k<=nid) (hr:10+k<=r) (h1:(g' p).length=(g p).length+1) (h2: ∀q,q≠p->g' q=g q):((gpX g k).set p (.sl 1 (10+p) 0 ((g p).length+1))).map (swV nid r 4)=gpX g' k:=by
 apply List.ext_getElem?
 intro i
 rw [List.getElem?_map,List.getElem?_set,yik]
 by_cases e:p=i
 ·subst e
  rw [if_pos rfl,if_pos hp]
  simp only [gpX,List.getElem?_map,List.getElem?_range hp,Option.map_some,swV,swI]
  rw [if_neg (by omega),if_neg (by omega)]
  unfold gpV
  rw [if_neg (by omega),h1]
 ·rw [if_neg e]
  by_cases hi:i<k
  ·simp only [gpX,List.getElem?_map,List.getElem?_range hi,Option.map_some]
   rw [yqx (by omega) (by omega)]
   unfold gpV
   rw [h2 i (Ne.symm e)]
  ·simp [gpX,hi]
theorem y2f {F A:Fr} {X:Hp} {t:Nat} {l:List AV} (h0:hget X 1000000=some (.cells t (.lst l))) (hA:subF F gpO A):Wk F X A [(1000000, .cells t (.lst (List.replicate l.length .any)))]:=by
 intro B w0 Mx N w ρ a hs
 obtain ⟨hsp,arr,hb,hl,hcs⟩:=hs.objs 1000000 _ h0
 have hc:=hs.change (c':= .lst (List.replicate l.length .any)) h0 hb hb rfl rfl rfl rfl rfl (fun _ _=>rfl) (by simpa [Cs.len] using hl) (fun j hj=>by
  simp only [Cs.len,List.length_replicate] at hj
  obtain ⟨u,g1,_⟩:=hcs j (by simpa [Cs.len] using hj)
  refine ⟨u,g1,?_⟩
  simp only [Cs.get,List.getD_eq_getElem?_getD,List.getElem?_replicate,if_pos hj,Option.getD_some]
  exact .any _)
 refine Wk.subG (H':=[(1000000, .cells t (.lst (List.replicate l.length .any)))]) (fun t=>?_) (fun i o h=>?_) _ _ _ _ _ _ _ hc
 ·rcases yff hA t with e|⟨e,e2⟩
  ·exact .inl e
  ·right
   refine ⟨e,yqu (fun j hj=>?_) _ e2⟩
   simp only [gpO,hget] at hj
   split at hj
   ·rename_i e3;subst e3;rfl
   ·cases hj
 ·simp only [hget] at h
  split at h
  ·rename_i e
   subst e
   cases h
   refine ⟨ya2 h0,List.all_eq_true.2 fun x hx=>?_⟩
   rw [(List.mem_replicate.1 hx).2];rfl
  ·cases h
end Go.Proofs.YtngegnonblbdhaaDoor
namespace Go.Proofs.YtngegnonblbdhaaDoor
open Go Go.RowKit
set_option maxRecDepth 100000
set_option maxHeartbeats 8000000
set_option linter.unusedVariables false
set_option linter.unusedSimpArgs false
theorem y3i (part:List Int) (k:Nat):gpW (gpR part 0) k=[(1000000, .cells 22 (.lst (List.replicate k .nils)))]:=by
 have h1:gpX (gpR part 0) k=List.replicate k .nils:=by
  apply List.ext_getElem?
  intro i
  by_cases hi:i<k<;>simp [gpX,hi,gpV,gpR]
 have h2: ∀j,gpH (gpR part 0) j=[]:=fun j=>by
  induction j with
  |zero=>rfl
  |succ j ih=>simp only [gpH];rw [if_pos (by simp [gpR]),ih]
 show (1000000,AObj.cells 22 (.lst (gpX (gpR part 0) k)))::gpH (gpR part 0) k=_
 rw [h1,h2]
theorem ylm {g:Nat->List Int} {f:Nat×AObj->Bool} (h: ∀i l,f (i, .cells 3 (.ints l))=true): ∀k,(gpH g k).all f=true
 |0=>rfl
 |k+1=>by
  simp only [gpH]
  split
  ·exact ylm h k
  ·rw [List.all_cons,h,ylm h k];rfl
theorem y0y {g:Nat->List Int} {p q:Nat} (h:q≠p):cutV (10+p) (gpV g q)=gpV g q:=by
 unfold gpV
 split
 ·rfl
 ·have e:(10+q !=10+p)=true:=by rw [bne_iff_ne];omega
  simp [cutV,n3,n2,n1,e]
  omega
theorem y0z {g g':Nat->List Int} {k p r nid:Nat} (hp:p<k) (hn:10+k<=nid) (hr:10+k<=r) (h1:(g' p).length=(g p).length+1) (h2: ∀q,q≠p->g' q=g q):(((gpX g k).map (cutV (10+p))).set p (.sl 1 (10+p) 0 ((g p).length+1))).map (swV nid r 4)=gpX g' k:=by
 rw [←y0x hp hn hr h1 h2]
 congr 1
 apply List.ext_getElem?
 intro i
 rw [List.getElem?_set,List.getElem?_set,List.length_map]
 by_cases e:p=i
 ·rw [if_pos e,if_pos e]
 ·rw [if_neg e,if_neg e]
  by_cases hi:i<k
  ·simp only [gpX,List.getElem?_map,List.getElem?_range hi,Option.map_some]
   rw [y0y (Ne.symm e)]
  ·simp [gpX,hi]
theorem yxl (s m:List Int) (L:Int) (hv:yao s m L=true): ∃k:Nat,(yah m s.length).2=k/\k<=s.length/\Fn Tryd.prog 7 [dgA s m L] (.ro 1 k (.lst (List.replicate k .any))):=by
 have v1:=yb8 hv
 have h64:=v1.s64
 have hm:=v1.prd.ok
 obtain ⟨p1,p2,p3,p4⟩:=yfy hm
 obtain ⟨k,hk⟩: ∃k:Nat,(yah m s.length).2=k:=⟨(yah m s.length).2.toNat,by omega⟩
 have hV:=ych s m L
 rw [hv] at hV
 have hlb:=ynr s m L (by omega) hm
 rw [hk] at hlb p4 p3
 refine ⟨k,hk,by omega,?_⟩
 generalize (yah m s.length).1=part at*
 rw [←p1] at p4 p3
 have h64':part.length<=64:=by omega
 have pr: ∀c,c<part.length-> ∃p:Nat,part.getD c 0=p/\p<k:=fun c hc=>⟨(part.getD c 0).toNat,by have:=p4 c hc;omega,by have:=p4 c hc;omega⟩
 clear p1 hk hm v1 h64 p4 p2
 refine Fn.introL [.tmp 2] Tryd.func7 rfl rfl (by decide) (by simp [Tryd.ntmps7]) ?_;rw [Tryd.ntmps7]
 repeat' (first|omega|(try apply yaa);simp only [go_sem,sevalprocAttr]|apply yab<;>(intro h_;(try simp only [h_]);revert h_)|apply And.intro|with_reducible intro h_|trivial|simp only [go_sem,la2];omega)
 refine ⟨yad.fn rfl hV ?_⟩
 repeat' (first|omega|(try apply yaa);simp only [go_sem,sevalprocAttr]|apply yab<;>(intro h_;(try simp only [h_]);revert h_)|apply And.intro|with_reducible intro h_|trivial|simp only [go_sem,la2];omega)
 refine ⟨yad.fn rfl hlb ?_⟩
 repeat' (first|omega|(try apply yaa);simp only [go_sem,sevalprocAttr]|apply yab<;>(intro h_;(try simp only [h_]);revert h_)|apply And.intro|with_reducible intro h_|trivial|simp only [go_sem,la2];omega)
 refine yak.intro (fun n' fr H=> ∃c:Nat,c<=part.length/\n'=part.length-c/\fr=[(20,I c),(19,I part.length),(18,roI part),(5, .sl 1 1000000 0 k)]/\H=gpW (gpR part c) k) ?_ ?_
 ·refine ⟨_,_,_,?_,0,by omega,rfl,rfl,rfl⟩
  rw [y3i]
  refine Wk.subS 1 1000000 (fr1:=[(20,I 0),(19,I part.length),(18,roI part),(5, .sl 1 1 0 k)]) (H1:=[(1, .cells 22 (.lst (List.replicate k .nils)))]) rfl (by simp only [swH,swO,swI,List.map_replicate,swV];rfl) rfl (by simp only [swH,swO,swI,List.map_replicate,swV];rfl) ?_ ?_
  ·simp only [go_sem,sevalprocAttr]
  ·simp only [go_sem,sevalprocAttr]
   refine ⟨?_,List.all_eq_true.2 fun x hx=>?_⟩
   ·have: ∀j,(List.replicate j [AV.nils]).flatten=List.replicate j AV.nils:=fun j=>by
     induction j with
     |zero=>rfl
     |succ j ih=>simp only [List.replicate_succ,List.flatten_cons,ih,List.cons_append,List.nil_append]
    exact this k
   ·rw [(List.mem_replicate.1 hx).2];rfl
 rintro n' fr H ⟨c,hc,rfl,rfl,rfl⟩
 by_cases hcn:c<part.length
 ·have bc:decide ((c:Int)<part.length)=true:=by simp;omega
  obtain ⟨p,hp,hpk⟩:=pr c hcn
  have g0:=y0v (gpR part c) hpk
  have gl:=yik (gpR part c) k
  have hnw:max 1000001 (hnew (gpH (gpR part c) k))=1000001:=by have:=yqw (gpR part c) k;omega
  have gs:gpR part (c+1) p=gpR part c p++[(c:Int)]:=by simp only [gpR];rw [if_pos hp]
  have gn: ∀q,q≠p->gpR part (c+1) q=gpR part c q:=fun q hq=>by simp only [gpR];rw [if_neg (by omega)]
  have gb:=yqv part c p
  by_cases h0:(gpR part c p).length=0
  ·have g1:(gpX (gpR part c) k).getD p .any= .nils:=by rw [g0];unfold gpV;rw [if_pos h0]
   repeat' (first|omega|(try apply yaa);simp only [go_sem,sevalprocAttr,bc,hp,g1,gl,hnw]|apply yab<;>(intro h_;(try simp only [h_]);revert h_)|apply And.intro|with_reducible intro h_|trivial|simp only [go_sem,la2];omega)
   refine ⟨_,_,_,?_,yx3 (g:=gpR part (c+1)) 1000002 (10+p) (by omega) (by omega) (by omega) rfl ?_ (fun q hq hq0=>?_) ?_,c+1,by omega,rfl,rfl,rfl⟩
   ·omega
   ·exact y0w hpk (by omega) (by rw [gs,List.length_append,h0];rfl) gn
   ·simp only [swI]
    by_cases e:q=p
    ·subst e
     rw [if_neg (by omega),if_pos rfl,gs,List.eq_nil_of_length_eq_zero h0]
     rfl
    ·rw [if_neg (by omega),if_neg (by omega),gn q e]
     rw [gn q e] at hq0
     simp only [hget]
     rw [if_neg (by omega),if_neg (by omega),if_neg (by omega)]
     exact gpH_row hq hq0
   ·simp only [go_sem,sevalprocAttr]
    all_goals rfl
  ·have g1:(gpX (gpR part c) k).getD p .any= .sl 1 (10+p) 0 (gpR part c p).length:=by rw [g0];unfold gpV;rw [if_neg h0]
   have gr:=gpH_row hpk h0
   have e0:(1000000=10+p)=False:=eq_false (by omega)
   have e1:(1000001=10+p)=False:=eq_false (by omega)
   have ga:=fun (f:Nat×AObj->Bool) (h: ∀i l,f (i, .cells 3 (.ints l))=true)=>ylm (g:=gpR part c) h k
   have e2:(10+p=1000000)=False:=eq_false (by omega)
   have e3:(10+p=1000001)=False:=eq_false (by omega)
   repeat' (first|omega|(try apply yaa);simp only [go_sem,sevalprocAttr,bc,hp,g1,gl,hnw,gr,e0,e1,e2,e3,ga,List.length_set,List.length_map]|apply yab<;>(intro h_;(try simp only [h_]);revert h_)|apply And.intro|with_reducible intro h_|trivial|simp only [go_sem,la2];omega)
   refine ⟨_,_,_,?_,yx3 (g:=gpR part (c+1)) 1000001 (10+k) (by omega) (by omega) (by omega) (by simp only [hget,e2,if_false];rfl) (y0z hpk (by omega) (by omega) (by rw [gs,List.length_append];rfl) gn) (fun q hq hq0=>?_) ?_,c+1,by omega,rfl,rfl,rfl⟩
   ·omega
   ·simp only [swI]
    rw [if_neg (by omega),if_neg (by omega)]
    by_cases e:q=p
    ·subst e
     rw [gs]
     simp only [hget]
     rw [if_pos trivial]
    ·rw [gn q e]
     rw [gn q e] at hq0
     simp only [hget]
     rw [if_neg (by omega),if_neg (by omega),if_neg (by omega),yd6,if_neg (by omega),gpH_row hq hq0]
     rfl
   ·simp only [go_sem,sevalprocAttr]
    all_goals rfl
 ·obtain rfl:c=part.length:=by omega
  have bc:decide ((part.length:Int)<part.length)=false:=by simp
  refine yaa _ _ _ _ ?_
  simp only [go_sem,sevalprocAttr,bc]
  refine yaa _ _ _ _ ?_
  simp only [go_sem,sevalprocAttr,bc]
  refine WpA.wk (y2f (A:=[(5, .sl 1 1000000 0 k)]) rfl ?_) ?_
  ·simp only [go_sem,sevalprocAttr]
   all_goals rfl
  rw [yik]
  repeat' (first|omega|(try apply yaa);simp only [go_sem,sevalprocAttr]|apply yab<;>(intro h_;(try simp only [h_]);revert h_)|apply And.intro|with_reducible intro h_|trivial|simp only [go_sem,la2];omega)
  all_goals first
   |exact LeA.of (by rw [List.map_replicate,List.take_of_length_le (by simp)];rfl)
   |(have hq:=List.mem_replicate.1 ‹_∈List.replicate k AV.any›;rw [hq.2];trivial)
end Go.Proofs.YtngegnonblbdhaaDoor
set_option linter.unusedSimpArgs false
set_option linter.unusedVariables false
namespace Go.Proofs.YtngegnonblbdhaaDoor
open Go Go.RowKit
set_option maxRecDepth 100000
set_option maxHeartbeats 4000000
theorem yxm (g:Nat) (c:Cs) (nx:Int->Int) (x:Int) (k:Nat) (hk:Per nx x k) (hb:k<=100000) (hf: ∀j,j<k->Fn Tryd.prog g [I (it nx j x), .rp c 0] (I (it nx (j+1) x))):
  Fn Tryd.prog 84 [I x, .fn g [.rp c 0]] (roI (its nx x k)):=by
 have k0:=hk.pos
 refine Fn.intro [.tmp 4] Tryd.func84 rfl rfl (by decide) (by simp [Tryd.ntmps84]) ?_;rw [Tryd.ntmps84]
 repeat' (first|omega|(try apply yaa);simp only [go_sem,sevalprocAttr]|apply yab<;>(intro h_;(try simp only [h_]);revert h_)|apply And.intro|with_reducible intro h_|trivial|simp only [go_sem,la2];omega)
 refine ⟨yad.fn rfl (hf 0 k0) ?_⟩
 repeat' (first|omega|(try apply yaa);simp only [go_sem,sevalprocAttr]|apply yab<;>(intro h_;(try simp only [h_]);revert h_)|apply And.intro|with_reducible intro h_|trivial|simp only [go_sem,la2];omega)
 refine yak.intro (fun n fr H=> ∃j:Nat,0<j/\j<=k/\n=k-j/\fr=[(6,I (it nx j x)),(5, .sl 1 0 0 j),(1, .fn g [.rp c 0]),(0,I x)]/\H=[(0, .cells 3 (.ints (its nx x j)))]) ?_ ?_
 ·refine ⟨_,_,_,?_,1,by omega,by omega,rfl,rfl,rfl⟩
  refine Wk.sub ?_ ?_<;>simp only [go_sem,sevalprocAttr]
  rfl
 rintro n fr H ⟨j,hj,hjk,rfl,rfl,rfl⟩
 have e1:=yk1 nx x j
 have e2:=yk1 nx x k
 by_cases hjl:j<k
 ·have hne:=hk.first j hj hjl
  repeat' (first|omega|(try apply yaa);simp only [go_sem,sevalprocAttr]|apply yab<;>(intro h_;(try simp only [h_]);revert h_)|apply And.intro|with_reducible intro h_|trivial|simp only [go_sem,la2];omega)
  refine ⟨yad.fn rfl (hf j hjl) ?_⟩
  repeat' (first|omega|(try apply yaa);simp only [go_sem,sevalprocAttr]|apply yab<;>(intro h_;(try simp only [h_]);revert h_)|apply And.intro|with_reducible intro h_|trivial|simp only [go_sem,la2];omega)
  refine ⟨_,_,_,?_,?_,⟨j+1,by omega,by omega,rfl,rfl,rfl⟩⟩
  ·omega
  ·refine Wk.sub ?_ ?_<;>simp only [go_sem,sevalprocAttr]
   exact (yni nx x j).symm
 ·obtain rfl:j=k:=by omega
  have hne:=hk.back
  repeat' (first|omega|(try apply yaa);simp only [go_sem,sevalprocAttr]|apply yab<;>(intro h_;(try simp only [h_]);revert h_)|apply And.intro|with_reducible intro h_|trivial|simp only [go_sem,la2];omega)
  exact List.take_of_length_le (by omega)
end Go.Proofs.YtngegnonblbdhaaDoor
set_option linter.unusedSimpArgs false
set_option linter.unusedVariables false
namespace Go.Proofs.YtngegnonblbdhaaDoor
set_option maxRecDepth 100000
set_option linter.unusedVariables false
def yb0 (m:List Int):List (List Int):=(cysN m.length (fun _=>true) (orbF (yau m) m.length) m.length).1
def setA (l:List Int) (v:Int):List Int->List Int
 |[]=>l
 |g::r=>setA (l.set g.toNat v) v r
theorem yjq (v:Int): ∀(r l:List Int),(setA l v r).length=l.length
 |[],_=>rfl
 |g::r,l=>by simp only [setA];rw [yjq v r,List.length_set]
theorem yox (v:Int): ∀(r r2 l:List Int),setA l v (r++r2)=setA (setA l v r) v r2
 |[],_,_=>rfl
 |g::r,r2,l=>by simp only [List.cons_append,setA];exact yox v r r2 _
theorem yjr (v:Int): ∀(r l:List Int),(∀g∈r,0<=g/\g<l.length)-> ∀x:Nat,(setA l v r).getD x 0=if (x:Int)∈r then v else l.getD x 0
 |[],l,_,x=>by simp [setA]
 |g::r,l,h,x=>by
  have hg:=h g (List.mem_cons_self ..)
  simp only [setA]
  rw [yjr v r _ (fun y hy=>by rw [List.length_set];exact h y (List.mem_cons_of_mem _ hy))]
  by_cases h1:(x:Int)∈r
  ·rw [if_pos h1,if_pos (List.mem_cons_of_mem _ h1)]
  ·rw [if_neg h1]
   by_cases h2:(x:Int)=g
   ·subst h2
    rw [if_pos (List.mem_cons_self ..),Int.toNat_natCast,yam (by omega)]
   ·rw [if_neg (by simp only [List.mem_cons,not_or];exact ⟨h2,h1⟩),yag (by omega)]
def lfN (fs:List (List Int)) (N:Nat):Nat->List Int
 |0=>List.replicate N 0
 |i+1=>setA (lfN fs N i) i (fs.getD i [])
theorem yim (fs:List (List Int)) (N:Nat): ∀i,(lfN fs N i).length=N
 |0=>by simp [lfN]
 |i+1=>by simp only [lfN];rw [yjq,yim fs N i]
theorem yoy {fs:List (List Int)} {N:Nat} (hf: ∀f∈fs,∀g∈f,0<=g/\g<N) {x y:Nat} (hx:x<N) (hy:y<N) (h: ∀f∈fs,((x:Int)∈f↔(y:Int)∈f)): ∀i,i<=fs.length->(lfN fs N i).getD x 0=(lfN fs N i).getD y 0
 |0,_=>by simp [lfN,hx,hy]
 |i+1,hi=>by
  have ih:=yoy hf hx hy h i (by omega)
  have hm:fs.getD i []∈fs:=by rw [List.getD_eq_getElem?_getD,List.getElem?_eq_getElem (show i<fs.length by omega)];exact List.getElem_mem _
  have hr: ∀g∈fs.getD i [],0<=g/\g<(lfN fs N i).length:=fun g hg=>by rw [yim];exact hf _ hm g hg
  simp only [lfN]
  rw [yjr _ _ _ hr,yjr _ _ _ hr,ih]
  by_cases e:(x:Int)∈fs.getD i []
  ·rw [if_pos e,if_pos ((h _ hm).1 e)]
  ·rw [if_neg e,if_neg fun k=>e ((h _ hm).2 k)]
theorem yme {m:List Int} {n:Nat} (h:Sp.Dia m n): ∀f∈yb0 m,f.length<=m.length/\ ∀g∈f,0<=g/\g<m.length:=fun f hf=>by
 have hml:=h.prd.ok.1
 obtain ⟨z,hz,_,rfl⟩:=yg0 _ f hf
 obtain ⟨_,o2,_,_,_,o6,_⟩:=yep (ycx h.prd) (x:=z) (by unfold InR;omega)
 rw [←hml] at o2 o6
 exact ⟨o6,fun g hg=>by have:=o2 g hg;unfold InR at this;omega⟩
theorem yx4 {m:List Int} {n:Nat} (h:Sp.Dia m n) {x y:Nat} (hx:x<4*n) (hy:y<4*n) (hs:Sp.SC (Sp.phK Sp.siD (Sp.alD m) (4*n)) x y):
  (lfN (yb0 m) m.length (yb0 m).length).getD x 0=(lfN (yb0 m) m.length (yb0 m).length).getD y 0:=by
 have hml:=h.prd.ok.1
 have hp:=Sp.phK_perm (Sp.siD_perm n) h.mat (4*n) (Nat.le_refl _)
 refine yoy (fun f hf=>(yme h f hf).2) (by omega) (by omega) (fun f hf=>?_) _ (Nat.le_refl _)
 obtain ⟨z,hz,_,rfl⟩:=yg0 _ f hf
 rw [h.face (by omega),h.face (by omega)]
 exact ⟨fun e=>e.trans hs,fun e=>e.trans (hs.symm hp hx)⟩
end Go.Proofs.YtngegnonblbdhaaDoor
