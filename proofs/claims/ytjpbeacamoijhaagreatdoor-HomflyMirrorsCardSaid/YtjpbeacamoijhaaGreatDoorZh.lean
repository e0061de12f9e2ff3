/- Layer 13: gather. -/
import Derived.Test.YtjpbeacamoijhaaGreatDoorZg
import Derived.Test.YtjpbeacamoijhaaGreatDoorZf
import Derived.Test.YtjpbeacamoijhaaGreatDoorZc
namespace Go.Proofs.YtjpbeacamoijhaaGreatDoor
open Go Go.RowKit
set_option maxRecDepth 100000
set_option maxHeartbeats 8000000
set_option linter.unusedVariables false
set_option linter.unusedSimpArgs false
theorem y1i (m:aP) (sn:List Nat) {b:Nat} {q:Int×Int×Int} (h:m[b]?=some q):kg m (sn++[b])=kg m sn++if sP q.2=0 then [] else [(q.1,sP q.2)]:=by
 rw [y09]
 have:m.getD b (0,0,0)=q:=by rw [List.getD_eq_getElem?_getD,h];rfl
 rw [this];rfl
theorem M4 {sn:List Nat} {N:Nat} (hn:sn.Nodup) (hr: ∀i∈sn,i<N) (ha: ∀i,i<N->i∈sn):sn.Perm (List.range N):=
 (List.perm_ext_iff_of_nodup hn List.nodup_range).2 fun a=>⟨fun h=>List.mem_range.2 (hr a h),fun h=>ha a (List.mem_range.1 h)⟩
abbrev u5:AObj:= .cells 29 (.lst [.bool false, .nils])
abbrev gaH (r:List (Int×Int)):Hp:=[(6, .cells 29 (.lst [.bool false, .sl 3 5 0 r.length])),(5, .cells 74 (.lst (bvC r))),(4, .cells 29 (.lst [.bool false, .sl 3 5 0 r.length])),(2,u5)]
def DX:Hp:=[(2, .gone)]
theorem Ie {H:Hp} (h:(hget H 2).isSome=true): ∀i,(hget DX i).isSome=true->(hget H i).isSome=true:=fun i hi=>by
 by_cases h2:2=i
 ·subst h2;exact h
 ·simp only [DX,hget] at hi;rw [if_neg h2] at hi;cases hi
theorem KP (r:List (Int×Int)) (H:Hp):ca (.agg [.bool false, .ro 3 r.length (.lst (List.take (r.length*3) (List.map (snap H 4) (bvC r))))]) (jo false r):=
 ca.of (by rw [Sc,List.take_of_length_le (by rw [pg];omega)])
abbrev gaL (m:aP) (sn:List Nat):Hp:=[(7, .iter 3 m.length sn m.length),(6, .cells 29 (.lst [.bool false, .sl 3 5 0 (kg m sn).length])),(5, .cells 74 (.lst (bvC (kg m sn)))),(4,u5),(3, .gmap su m.length (gmL 0 m)),(2,u5)]
theorem Ms (m:aP) (j:Nat) (hm:lj m j) (hj:j<=10000000000) (hl:m.length<=1000000) (hs: ∀e,-1125899906842624<=mVal m e/\mVal m e<=1125899906842624) (hx: ∀e,mVal m e≠0->(-1048576<=aN e/\aN e<=1048576)/\ -1048576<=az e/\az e<=1048576) {mid:Nat} {fr fr':Fr} {H:Hp} {K:AV->Fr->Hp->Prop} (hw:Wk ((0, .mp mid)::lft fr) H ((0, .mp 3)::lft fr') [(3, .gmap su m.length (gmL 0 m)),(2,u5)]) (pd:fr'.all (fun q=>s3 DX q.2)=true) (WE:fcut 5 (lft fr')=lft fr')
  (hK: ∀r,dL r (mVal m)->r.length<=1000000->K (.agg [.bool false, .sl 3 5 0 r.length]) fr' (gaH r)):
  qb Tryz.prog 72 [.mp mid] fr H K:=by
 have gl:=Qi 0 m;refine qb.intro [.cell 2 29] Tryz.func72 rfl rfl (by decide) (by simp [Tryz.ntmps72]) ?_;rw [Tryz.ntmps72];refine pJ.wk hw ?_
 repeat' (first|omega|(try apply ah);simp only [go_sem,sevalprocAttr]|apply ag<;>(intro h_;(try simp only [h_]);revert h_)|apply And.intro|with_reducible intro h_|trivial|simp only [go_sem,ai];omega)
 refine pK.Bz (kt:=109) (et:=107) rfl (by simp only [go_sem,sevalprocAttr]) (by simp only [go_sem,sevalprocAttr]) rfl rfl ?_
 repeat' (first|omega|(try apply ah);simp only [go_sem,sevalprocAttr,gl]|apply ag<;>(intro h_;(try simp only [h_]);revert h_)|apply And.intro|with_reducible intro h_|trivial|simp only [go_sem,ai];omega)
 refine pK.range (kt:=109) (et:=107) rfl (by simp only [go_sem,sevalprocAttr]) (by simp only [go_sem,sevalprocAttr]) rfl rfl ?_
 repeat' (first|omega|(try apply ah);simp only [go_sem,sevalprocAttr]|apply ag<;>(intro h_;(try simp only [h_]);revert h_)|apply And.intro|with_reducible intro h_|trivial|simp only [go_sem,ai];omega)
 refine dn.intro (fun n fr1 H1=> ∃sn:List Nat,sn.Nodup/\(∀i∈sn,i<m.length)/\n=m.length-sn.length/\fr1=[(13, .ptr 7 0),(3, .ptr 6 0),(2, .ptr 4 0)]++lft fr'/\
  H1=gaL m sn) ?_ ?_
 ·refine ⟨_,_,_,Wk.tm (A:=[(13, .ptr 7 0),(3, .ptr 6 0),(2, .ptr 4 0)]) pd ?_ ?_ (Ie rfl) (fun t ht=>?_) rfl,[], .nil,(fun i hi=>by cases hi),rfl,rfl,rfl⟩
  ·simp only [go_sem,sevalprocAttr]
  ·simp only [go_sem,sevalprocAttr,↓qe]
   all_goals first|exact A2 _ _ _|exact ⟨rfl,rfl,rfl⟩
  ·simp only [fget]
   repeat rw [if_neg (by omega)]
 rintro n fr1 H1 ⟨sn,hn,hr,rfl,rfl,rfl⟩
 repeat' (first|omega|(try apply ah);simp only [go_sem,sevalprocAttr]|apply ag<;>(intro h_;(try simp only [h_]);revert h_)|apply And.intro|with_reducible intro h_|trivial|simp only [go_sem,ai];omega)
 refine pK.tU (mid:=3) (iid:=7) (since:=m.length) (last:=m.length) (t:=su) (ck:=m.length) (seen:=sn) (l:=gmL 0 m) rfl (by simp only [go_sem,sevalprocAttr]) rfl rfl rfl (fun q hq=>?_) (Nat.le_refl _) (fun cg=>?_) fun q hq hqn=>?_
 ·obtain ⟨k,u,h1,rfl⟩:=K7 hq
  have:=(List.getElem?_eq_some_iff.1 h1).1
  dsimp only;omega
 ·have hp:sn.Perm (List.range m.length):=M4 hn hr fun i hi=>by
   have:=cg _ (UR 0 m i m[i] (List.getElem?_eq_getElem hi))
   simpa using this
  repeat' (first|omega|(try apply ah);simp only [go_sem,sevalprocAttr]|apply ag<;>(intro h_;(try simp only [h_]);revert h_)|apply And.intro|with_reducible intro h_|trivial|simp only [go_sem,ai];omega)
  have yu:=LH m sn;have jY:=Bt hn hr;refine ⟨aO.inline (y1h (q:=kg m sn) rfl (by omega) fun r JR ho=>?_)⟩;have hR:=y1c hm.nd hp JR ho;have hlr:r.length=(kg m sn).length:=JR.length_eq;have hK:=hK r hR (by omega);simp only [go_sem,sevalprocAttr];rw [←hlr]
  refine pJ.wk (fr':=[(3, .ptr 6 0),(2, .ptr 4 0)]++lft fr') (H':=[(6, .cells 29 (.lst [.bool false, .sl 3 5 0 r.length])),(5, .cells 74 (.lst (bvC r))),(4,u5),(2,u5)]) (Wk.tm pd ?_ ?_ (Ie rfl) (fun t ht=>?_) rfl) ?_
  ·simp only [go_sem,sevalprocAttr]
  ·simp only [go_sem,sevalprocAttr,dq]
  ·simp only [fget]
   repeat rw [if_neg (by omega)]
  repeat' (first|omega|(try apply ah);simp only [go_sem,sevalprocAttr]|apply ag<;>(intro h_;(try simp only [h_]);revert h_)|apply And.intro|with_reducible intro h_|trivial|simp only [go_sem,ai];omega)
  all_goals exact hK
 ·obtain ⟨k,u,h1,rfl⟩:=K7 hq;have hk:k<m.length:=(List.getElem?_eq_some_iff.1 h1).1;have B7:k∉sn:=by simpa using hqn
  have qP:=SA 0 m k u h1;rw [Nat.zero_add] at qP;have hu:u∈m:=List.mem_of_getElem? h1;have hB:=hm.bn u hu;have hv:mVal m u.1=sP u.2:=Qk hm.nd hu;have sw:=hs u.1;rw [hv] at sw;have gk:gkA su (kE u.1)= .agg [I (aN u.1),I (az u.1)]:=by unfold gkA;rw [if_neg (by decide),Ak]
  have hnd:(sn++[k]).Nodup:=by rw [List.nodup_append];exact ⟨hn,by simp,fun a ha b hb h=>B7 (by simp at hb;rw [←hb,←h];exact ha)⟩
  have NO: ∀i∈sn++[k],i<m.length:=fun i hi=>by
   rcases List.mem_append.1 hi with hi|hi
   ·exact hr i hi
   ·simp at hi;omega
  have JO:=Bt hnd NO;rw [List.length_append] at JO;simp only [List.length_cons,List.length_nil] at JO;have JS:=UQ 0 m;simp only [go_sem,sevalprocAttr] at JS;have eo:=y1i m sn h1;have hSm:=YI u.2.1 u.2.2 (by omega) (by omega) (by unfold sP at sw;omega);rw [show u.2.1*33554432+u.2.2=sP u.2 from rfl] at hSm;have gX:=hx u.1;rw [hv] at gX;dsimp only;rw [gk,Nat.zero_add]
  have wT:=pg (kg m sn);have yu:=LH m sn;have gt:(su<1000000000)=False:=eq_false (by decide);have WX:(sn++[k]).getLast?=some k:=by simp
  have wA:=vX (aN u.1) 1048576 (by decide) (by decide);have wZ:=vX (az u.1) 1048576 (by decide) (by decide);by_cases h0:sP u.2=0
  ·have b0:(sP u.2==0)=true:=by rw [h0];rfl
   rw [if_pos h0,List.append_nil] at eo
   repeat' (first|omega|(try apply ah);simp only [go_sem,sevalprocAttr,WX,qP,gt,Ak,b0]|(refine ⟨aO.fn (r:=?_) rfl ?_ ?_⟩;rotate_left;assumption)|(refine ⟨c8.fn (r:=?_) rfl ?_ ?_⟩;rotate_left;assumption)|apply ag<;>(intro h_;(try simp only [h_]);revert h_)|apply And.intro|with_reducible intro h_|trivial|simp only [go_sem,ai];omega)
   refine ⟨_,_,_,?_,Wk.tm (A:=[(13, .ptr 7 0),(3, .ptr 6 0),(2, .ptr 4 0)]) pd ?_ ?_ (Ie rfl) (fun t ht=>?_) rfl,sn++[k],hnd,NO,rfl,rfl,rfl⟩
   ·rw [List.length_append];simp only [List.length_cons,List.length_nil];omega
   ·simp only [go_sem,sevalprocAttr]
   ·simp only [go_sem,sevalprocAttr,eo,dq]
    all_goals exact sb _ (fun _ _ _ _=>rfl) _ _
   ·simp only [fget]
    repeat rw [if_neg (by omega)]
    try rw [WE]
  ·have b0:(sP u.2==0)=false:=by rw [beq_eq_false_iff_ne];exact h0
   have BH:=gX h0;rw [if_neg h0] at eo;rw [decide_eq_true (by omega),decide_eq_true (by omega),Bool.and_self] at wA wZ
   repeat' (first|omega|(try apply ah);simp only [go_sem,sevalprocAttr,WX,qP,gt,Ak,JS,wT,b0]|(refine ⟨aO.fn (r:=?_) rfl ?_ ?_⟩;rotate_left;assumption)|(refine ⟨c8.fn (r:=?_) rfl ?_ ?_⟩;rotate_left;assumption)|apply ag<;>(intro h_;(try simp only [h_]);revert h_)|apply And.intro|with_reducible intro h_|trivial|simp only [go_sem,ai];omega)
   refine ⟨_,_,_,?_,Wk.tm (A:=[(13, .ptr 7 0),(3, .ptr 6 0),(2, .ptr 4 0)]) pd ?_ ?_ (Ie rfl) (fun t ht=>?_) rfl,sn++[k],hnd,NO,rfl,rfl,rfl⟩
   ·rw [List.length_append];simp only [List.length_cons,List.length_nil];omega
   ·simp only [go_sem,sevalprocAttr]
   ·simp only [go_sem,sevalprocAttr,eo,dq,Lg,QD,List.all_append,bvC]
    all_goals exact sb _ (fun _ _ _ _=>rfl) _ _
   ·simp only [fget]
    repeat rw [if_neg (by omega)]
    try rw [WE]
end Go.Proofs.YtjpbeacamoijhaaGreatDoor
namespace Go.Proofs.YtjpbeacamoijhaaGreatDoor
set_option linter.unusedSimpArgs false
set_option linter.unusedVariables false
def c7 (f:Int->Int) (N:Int):Prop:= ∀e,f e≠0->(-N<=aN e/\aN e<=N)/\ -N<=az e/\az e<=N
def kW (f:Int->Int):Prop:= ∀e,-1125899906842624<=f e/\f e<=1125899906842624
theorem c7.mono {f:Int->Int} {N M:Int} (h:c7 f N) (hm:N<=M):c7 f M:=fun e he=>by have:=h e he;omega
theorem c7.add {f g:Int->Int} {N:Int} (hf:c7 f N) (hg:c7 g N) (c:Int):c7 (fun e=>f e+c*g e) N:=fun e he=>by
 by_cases h:f e=0
 ·exact hg e fun h'=>he (by simp [h,h'])
 ·exact hf e h
theorem MI {e e':Int} {N M:Int} (h:(-N<=aN (e-e')/\aN (e-e')<=N)/\ -N<=az (e-e')/\az (e-e')<=N) (h': -M<=az e'/\az e'<=M) (hN:N<=1048576) (hM:M<=1048576):aN e=aN (e-e')+aN e'/\az e=az (e-e')+az e':=by
 have h1:=Lh (aN (e-e')) (az (e-e')) (aN e') (az e');rw [qI,qI,show e-e'+e'=e by omega] at h1;have h2:aN e=aN (bB (aN (e-e')+aN e') (az (e-e')+az e')):=congrArg aN h1;have h3:az e=az (bB (aN (e-e')+aN e') (az (e-e')+az e')):=congrArg az h1;rw [tG (by omega)] at h2;rw [pL (by omega)] at h3;exact ⟨h2,h3⟩
theorem c7.shift {f:Int->Int} {N M a z:Int} (h:c7 f N) (ha: -M<=a/\a<=M) (hz: -M<=z/\z<=M) (hN:N<=1048576) (hM:M<=1048576):c7 (fun e=>f (e-bB a z)) (N+M):=fun e he=>by
 have h1:=h _ he;have h2:=MI h1 (M:=M) (by rw [pL (by omega)];exact hz) hN hM;rw [tG (by omega),pL (by omega)] at h2;omega
theorem dL.od {p:List (Int×Int)} {f:Int->Int} (h:dL p f) {N:Int} (hs:c7 f N) (hN:N<=150):p.length<=100000:=by
 have hm: ∀t∈p,(-N<=aN t.1/\aN t.1<=N)/\ -N<=az t.1/\az t.1<=N:=fun t ht=>hs _ (h.mem ht).2;have ha:gM (p.map fun t=>(aN t.1*301+az t.1,t.2)):=by
  refine ⟨?_,fun t ht=>?_⟩
  ·rw [List.pairwise_map];refine h.asc.asc.imp_of_mem fun {a b} ma mb lW=>?_;have h1:=hm a ma;have h2:=hm b mb;rcases (Uf _ _).1 lW with h3|⟨h3,h4⟩
   ·show aN a.1*301+az a.1<aN b.1*301+az b.1;omega
   ·show aN a.1*301+az a.1<aN b.1*301+az b.1;omega
  ·obtain ⟨u,hu,rfl⟩:=List.mem_map.1 ht;exact h.asc.nz u hu
 have:=ha.len (a:= -45300) (b:=45300) fun t ht=>by
  obtain ⟨u,hu,rfl⟩:=List.mem_map.1 ht
  have:=hm u hu
  show-45300<=aN u.1*301+az u.1/\aN u.1*301+az u.1<=45300;omega
 simp only [List.length_map] at this;omega
theorem dL.qm {p:List (Int×Int)} {f:Int->Int} (h:dL p f) {N:Int} (hs:c7 f N) {t:Int×Int} (ht:t∈p):(-N<=aN t.1/\aN t.1<=N)/\ -N<=az t.1/\az t.1<=N:=hs _ (h.mem ht).2
theorem EM {f:Int->Int} {N:Int} (hs:c7 f N) (hN:N<=1048576): ∃p,dL p f:=by
 have oq: ∀e,f e≠0-> -20000000000000<=e/\e<=20000000000000:=fun e he=>by
  have h1:=hs e he;have h2:=qI e;unfold bB at h2;omega
 obtain ⟨M,hM⟩: ∃M:Nat,M=20000000000000:=⟨_,rfl⟩;refine ⟨tmI (-(M:Int)) ((List.range (2*M+1)).map fun (i:Nat)=>f ((i:Int)-M)),Rj _ _,fun e=>?_⟩;rw [Ri];by_cases h0:f e=0
 ·rw [h0]
  split
  ·by_cases h1:(e- -(M:Int)).toNat<2*M+1
   ·simp only [List.getD_eq_getElem?_getD,List.getElem?_map,List.getElem?_range h1,Option.map_some,Option.getD_some];rw [show (((e- -(M:Int)).toNat:Nat):Int)-M=e by omega,h0]
   ·rw [List.getD_eq_getElem?_getD,List.getElem?_eq_none (by simp;omega)];rfl
  ·rfl
 ·have:=oq e h0
  rw [if_pos (by omega)];have h1:(e- -(M:Int)).toNat<2*M+1:=by omega
  simp only [List.getD_eq_getElem?_getD,List.getElem?_map,List.getElem?_range h1,Option.map_some,Option.getD_some];rw [show (((e- -(M:Int)).toNat:Nat):Int)-M=e by omega]
theorem dL.uniq {p q:List (Int×Int)} {f:Int->Int} (h:dL p f) (h':dL q f):p=q:=gM.ext h.asc h'.asc fun e=>by rw [h.cf,h'.cf]
theorem RX (d:Int): ∀(p:List (Int×Int)) (e:Int),cfL (p.map fun t=>(t.1+d,t.2)) e=cfL p (e-d)
 |[],_=>rfl
 |t::p,e=>by
  simp only [List.map_cons,cfL];rw [RX d p e];by_cases h:t.1+d=e
  ·rw [if_pos h,if_pos (by omega)]
  ·rw [if_neg h,if_neg (by omega)]
theorem dL.shift {p:List (Int×Int)} {f:Int->Int} (h:dL p f) (d:Int):dL (p.map fun t=>(t.1+d,t.2)) (fun e=>f (e-d)):=by
 refine ⟨⟨?_,fun t ht=>?_⟩,fun e=>by rw [RX,h.cf]⟩
 ·rw [List.pairwise_map];exact h.asc.asc.imp fun {a b} lW=>by show a.1+d<b.1+d;omega
 ·obtain ⟨u,hu,rfl⟩:=List.mem_map.1 ht;exact h.asc.nz u hu
open Go Go.RowKit
set_option maxRecDepth 100000
set_option maxHeartbeats 8000000
theorem RW {p q r:List (Int×Int)} {f g:Int->Int} {N:Int} (c:Int) (hc:c=1\/c= -1) (hp:dL p f) (hq:dL q g) (sp:c7 f N) (sq:c7 g N) (hN:N<=150) (bp:kW f) (bq:kW g) (hr:dL r (fun e=>f e+c*g e)) (br:kW fun e=>f e+c*g e):
  Fn Tryz.prog 79 [jo false p,jo false q,I c] (jo false r):=by
 have lp:=hp.od sp hN;have lq:=hq.od sq hN;have cp:=pg p;have cq:=pg q;have mp: ∀t∈p,-1125899906842624<=t.2/\t.2<=1125899906842624:=fun t ht=>by rw [(hp.mem ht).1];exact bp _
 have mq: ∀t∈q,-1125899906842624<=t.2/\t.2<=1125899906842624:=fun t ht=>by rw [(hq.mem ht).1];exact bq _
 have M1:=lj.nil.add (c:=1) (d:=0) (p:=p) fun t ht=>by have:=mp t ht;omega
 have M2:=M1.add (c:=c) (d:=0) (p:=q) fun t ht=>by have:=mq t ht;rcases hc with rfl|rfl<;>omega
 have hv: ∀e,mVal (mAdd c 0 (mAdd 1 0 [] p) q) e=f e+c*g e:=fun e=>by
  rw [II,II,IK,Int.sub_zero,hp.cf,hq.cf];omega
 have sr:c7 (fun e=>f e+c*g e) N:=sp.add sq c;refine Fn.aH [.cell 6 29] Tryz.func79 rfl rfl (by decide) (by simp [Tryz.ntmps79]) ?_;rw [Tryz.ntmps79]
 repeat' (first|omega|(try apply ah);simp only [go_sem,sevalprocAttr]|apply ag<;>(intro h_;(try simp only [h_]);revert h_)|apply And.intro|with_reducible intro h_|trivial|simp only [go_sem,ai];omega)
 refine pK.makeMap (kt:=109) (et:=107) (n:=p.length+q.length) rfl (by simp only [go_sem,sevalprocAttr]) (by simp only [go_sem,sevalprocAttr]) rfl ?_
 repeat' (first|omega|(try apply ah);simp only [go_sem,sevalprocAttr]|apply ag<;>(intro h_;(try simp only [h_]);revert h_)|apply And.intro|with_reducible intro h_|trivial|simp only [go_sem,ai];omega)
 refine ⟨aO.inline (RB 1 (.inl rfl) p p q lp mp [] 0 lj.nil (by omega) (by simp only [go_sem,sevalprocAttr,Dw,dq]) ?_)⟩
 repeat' (first|omega|(try apply ah);simp only [go_sem,sevalprocAttr]|apply ag<;>(intro h_;(try simp only [h_]);revert h_)|apply And.intro|with_reducible intro h_|trivial|simp only [go_sem,ai];omega)
 refine ⟨aO.inline (RB c hc q p q lq mq (mAdd 1 0 [] p) (0+p.length) M1 (by omega) (by simp only [go_sem,sevalprocAttr,Dw,dq]) ?_)⟩
 repeat' (first|omega|(try apply ah);simp only [go_sem,sevalprocAttr]|apply ag<;>(intro h_;(try simp only [h_]);revert h_)|apply And.intro|with_reducible intro h_|trivial|simp only [go_sem,ai];omega)
 refine ⟨aO.inline (Ms (mAdd c 0 (mAdd 1 0 [] p) q) (0+p.length+q.length) M2 (by omega) (by have:=M2.len;omega) (fun e=>by rw [hv];exact br e) (fun e he=>by rw [hv] at he;have:=sr e he;omega) (fr':=[(6, .ptr 2 0)]) (Wk.sub ?_ ?_) (by simp only [go_sem,sevalprocAttr,DX]) rfl fun r' nS ox=>?_)⟩
 ·simp only [go_sem,sevalprocAttr]
 ·simp only [go_sem,sevalprocAttr,↓qe]
  all_goals exact sb _ (fun _ _ _ _=>rfl) _ _
 obtain rfl:r'=r:=gM.ext nS.asc hr.asc fun e=>by rw [nS.cf,hr.cf,hv]
 repeat' (first|omega|(try apply ah);simp only [go_sem,sevalprocAttr]|apply ag<;>(intro h_;(try simp only [h_]);revert h_)|apply And.intro|with_reducible intro h_|trivial|simp only [go_sem,ai];omega)
 all_goals first
  |exact ED _ _ ‹_›
  |exact KP r' _
  |(rw [pg];omega)
theorem ZR {p q r:List (Int×Int)} {f g:Int->Int} {N:Int} (hp:dL p f) (hq:dL q g) (sp:c7 f N) (sq:c7 g N) (hN:N<=150) (bp:kW f) (bq:kW g) (hr:dL r (fun e=>f e+1*g e)) (br:kW fun e=>f e+1*g e):
  Fn Tryz.prog 30 [jo false p,jo false q] (jo false r):=by
 have h:=RW 1 (.inl rfl) hp hq sp sq hN bp bq hr br;refine Fn.aH [.cell 4 29] Tryz.func30 rfl rfl (by decide) (by simp [Tryz.ntmps30]) ?_;rw [Tryz.ntmps30]
 repeat' (first|omega|(try apply ah);simp only [go_sem,sevalprocAttr,dq]|(refine ⟨aO.fn (r:=?_) rfl ?_ ?_⟩;rotate_left;assumption)|(refine ⟨c8.fn (r:=?_) rfl ?_ ?_⟩;rotate_left;assumption)|apply ag<;>(intro h_;(try simp only [h_]);revert h_)|apply And.intro|with_reducible intro h_|trivial|simp only [go_sem,ai];omega)
 all_goals exact ca.refl _
theorem Qh {p q r:List (Int×Int)} {f g:Int->Int} {N:Int} (hp:dL p f) (hq:dL q g) (sp:c7 f N) (sq:c7 g N) (hN:N<=150) (bp:kW f) (bq:kW g) (hr:dL r (fun e=>f e+ -1*g e)) (br:kW fun e=>f e+ -1*g e):
  Fn Tryz.prog 43 [jo false p,jo false q] (jo false r):=by
 have h:=RW (-1) (.inr rfl) hp hq sp sq hN bp bq hr br;refine Fn.aH [.cell 4 29] Tryz.func43 rfl rfl (by decide) (by simp [Tryz.ntmps43]) ?_;rw [Tryz.ntmps43]
 repeat' (first|omega|(try apply ah);simp only [go_sem,sevalprocAttr,dq]|(refine ⟨aO.fn (r:=?_) rfl ?_ ?_⟩;rotate_left;assumption)|(refine ⟨c8.fn (r:=?_) rfl ?_ ?_⟩;rotate_left;assumption)|apply ag<;>(intro h_;(try simp only [h_]);revert h_)|apply And.intro|with_reducible intro h_|trivial|simp only [go_sem,ai];omega)
 all_goals exact ca.refl _
def y8 (a b:Int):Int:=if a<b then b else a
def bvHt (p:List (Int×Int)):Nat->Int
 |0=>0
 |k+1=>y8 (y8 (bvHt p k) (p.getD k (0,0)).2) (-(p.getD k (0,0)).2)
theorem IG {p:List (Int×Int)} {B:Int} (h0:0<=B) (h: ∀i,-B<=(p.getD i (0,0)).2/\(p.getD i (0,0)).2<=B): ∀k,0<=bvHt p k/\bvHt p k<=B
 |0=>⟨Int.le_refl _,h0⟩
 |k+1=>by
  have:=IG h0 h k
  have:=h k
  simp only [bvHt,y8]
  split<;>split<;>omega
theorem Tm (p:List (Int×Int)) (hp:p.length<=100000) (hb: ∀i,-1125899906842624<=(p.getD i (0,0)).2/\(p.getD i (0,0)).2<=1125899906842624):Fn Tryz.prog 74 [jo false p] (I (bvHt p p.length)):=by
 have hc:=pg p;have hB:=IG (p:=p) (B:=1125899906842624) (by decide) hb;refine Fn.intro [.tmp 2] Tryz.func74 rfl rfl (by decide) (by simp [Tryz.ntmps74]) ?_;rw [Tryz.ntmps74]
 repeat' (first|omega|(try apply ah);simp only [go_sem,sevalprocAttr,hc]|apply ag<;>(intro h_;(try simp only [h_]);revert h_)|apply And.intro|with_reducible intro h_|trivial|simp only [go_sem,ai];omega)
 refine dn.intro (fun n fr H=> ∃k:Nat,k<=p.length/\n=p.length-k/\fr=[(9,I k),(8,I p.length),(7,mu p),(3,I (bvHt p k))]/\H=[]) ?_ ?_
 ·refine ⟨_,_,_,Wk.sub ?_ ?_,0,by omega,rfl,rfl,rfl⟩
  ·simp only [go_sem,sevalprocAttr,dq,bvHt]
  ·simp only [go_sem,sevalprocAttr]
 rintro n fr H ⟨k,hk,rfl,rfl,rfl⟩;have hBk:=hB k;by_cases cT:k<p.length
 ·have bk:decide ((k:Int)<p.length)=true:=by simp;omega
  obtain ⟨g0,g1,g2⟩:=yO p k cT;have hv:=hb k;have es:bvHt p (k+1)=y8 (y8 (bvHt p k) (p.getD k (0,0)).2) (-(p.getD k (0,0)).2):=rfl;generalize aN (p.getD k (0,0)).1=x at*;generalize az (p.getD k (0,0)).1=y at*;generalize (p.getD k (0,0)).2=v at*;have W0:bvHt p (k+1)=y8 (y8 (bvHt p k) v) (0-v):=by rw [es];congr 1;omega
  unfold y8 at W0;generalize bvHt p k=h at*
  repeat' (first|omega|(try apply ah);simp only [go_sem,sevalprocAttr,bk,hc,g0,g1,g2]|apply ag<;>(intro h_;(try simp only [h_]);revert h_)|apply And.intro|with_reducible intro h_|trivial|simp only [go_sem,ai];omega)
  refine ⟨_,_,_,?_,Wk.sub ?_ ?_,k+1,by omega,rfl,rfl,rfl⟩
  ·omega
  ·simp only [go_sem,sevalprocAttr,dq,W0]
  ·simp only [go_sem,sevalprocAttr]
 ·obtain rfl:k=p.length:=by omega
  have bk:decide ((p.length:Int)<p.length)=false:=by simp
  repeat' (first|omega|(try apply ah);simp only [go_sem,sevalprocAttr,bk]|apply ag<;>(intro h_;(try simp only [h_]);revert h_)|apply And.intro|with_reducible intro h_|trivial|simp only [go_sem,ai];omega)
end Go.Proofs.YtjpbeacamoijhaaGreatDoor
