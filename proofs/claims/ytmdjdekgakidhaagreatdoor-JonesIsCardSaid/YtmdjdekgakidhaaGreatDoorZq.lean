/- Layer 17: sweep: the bracket of the crossings, along an order. -/
import Derived.Test.YtmdjdekgakidhaaGreatDoorSx1
import Derived.Test.YtmdjdekgakidhaaGreatDoorZf
import Derived.Test.YtmdjdekgakidhaaGreatDoorZg
namespace Go.Proofs.YtmdjdekgakidhaaGreatDoor
open Go Go.RowKit
set_option maxRecDepth 100000
set_option maxHeartbeats 8000000
set_option linter.unusedVariables false
set_option linter.unusedSimpArgs false
theorem Jf (lo:Int) (cs:List Int) (hl:cs.length<=1000000) (hm:mxN cs<=1125899906842624):Fn Tryz.prog 114 [tpA lo cs] (.bool false):=by
 refine Fn.ai [.tmp 2] Tryz.func114 rfl rfl (by decide) (by simp [Tryz.ntmps114]) ?_;rw [Tryz.ntmps114]
 repeat' (first|omega|(try apply ag);simp only [go_sem,sevalprocAttr]|apply ae<;>(intro h_;(try simp only [h_]);revert h_)|apply And.intro|with_reducible intro h_|trivial|simp only [go_sem,ah];omega)
 refine aR.intro (fun n fr H=> ∃k:Nat,k<=cs.length/\n=cs.length-k/\fr=[(8,I k),(7,I cs.length),(6,roI cs)]/\H=[]) ?_ ?_
 ·refine ⟨_,_,_,?_,0,by omega,rfl,rfl,rfl⟩;refine Wk.sub ?_ ?_<;>simp only [go_sem,sevalprocAttr]
 rintro n fr H ⟨k,hk,rfl,rfl,rfl⟩;by_cases bM:k<cs.length
 ·have bk:decide ((k:Int)<cs.length)=true:=by simp;omega
  have hc:=uU cs k;have b1:decide (1125899906842624<cs.getD k 0)=false:=by rw [decide_eq_false_iff_not];omega
  have b2:decide (cs.getD k 0< -1125899906842624)=false:=by rw [decide_eq_false_iff_not];omega
  repeat' (first|omega|(try apply ag);simp only [go_sem,sevalprocAttr,bk,b1,b2]|apply ae<;>(intro h_;(try simp only [h_]);revert h_)|apply And.intro|with_reducible intro h_|trivial|simp only [go_sem,ah];omega)
  refine ⟨_,_,_,?_,?_,k+1,by omega,rfl,rfl,rfl⟩
  ·omega
  ·refine Wk.sub ?_ ?_<;>simp only [go_sem,sevalprocAttr]
 ·obtain rfl:k=cs.length:=by omega
  have bk:decide ((cs.length:Int)<cs.length)=false:=by simp
  repeat' (first|omega|(try apply ag);simp only [go_sem,sevalprocAttr,bk]|apply ae<;>(intro h_;(try simp only [h_]);revert h_)|apply And.intro|with_reducible intro h_|trivial|simp only [go_sem,ah];omega)
  all_goals exact az.refl _
theorem PB (H:Hp): ∀(G:List PE) (i:Nat),(∀k g,G[k]?=some g->hget H (i+k+10)=some (.cells 3 (.ints g.cs)))->hsel H ((List.range' i G.length).map (· +10))=dH i G
 |[],_,_=>rfl
 |g::G,i,h=>by
  have h0:=h 0 g rfl;rw [Nat.add_zero] at h0;simp only [zzG,List.range'_succ,List.map_cons,hsel,h0,dH];rw [PB H G (i+1) fun k g' hk=>by rw [show i+1+k+10=i+(k+1)+10 by omega];exact h (k+1) g' hk]
def plP (o:List Nat):Nat->List Nat
 |0=>[]
 |k+1=>o.getD k 0::plP o k
def dF (m:List Int) (o:List Nat):Nat->List Int
 |0=>[]
 |k+1=>aE m (dF m o k) (o.getD k 0)
theorem vm {o:List Nat} {k:Nat} (h:k<o.length):o.drop k=o.getD k 0::o.drop (k+1):=by
 rw [zzB,zzI h,Option.getD_some];exact List.drop_eq_getElem_cons h
theorem u5 {m:List Int} {n:Nat} (hp:bD m n) {o:List Nat} (hn:o.Nodup) (hl:o.length=n) (hr: ∀c∈o,c<n): ∀k,k<=n->pO m n (plP o k) (dF m o k) (o.drop k)/\(dF m o k).length<=4*k
 |0,_=>⟨pO.init hn hl hr,by simp [dF]⟩
 |k+1,hk=>by
  obtain ⟨h1,h2⟩:=u5 hp hn hl hr k (by omega);rw [vm (by omega)] at h1;have h3:=h1.dj _ (zzD ..);have h4:=Ni hp h1.he h3.2 h3.1;refine ⟨h1.step hp,?_⟩;simp only [dF];omega
structure lA (m:List Int) (n:Nat) (o:List Nat) (k:Nat) (sd:List PE):Prop where
 ok:oe (dF m o k).length (k:Int) (2+200*(k:Int)) sd
 len:sd.length<=2^k
 pos:1<=sd.length
 va: ∀e,sumG (oq m (o.drop k) (dF m o k) e) sd=cu m n 0 1 e
 nu:dG (jN m (o.drop k) (dF m o k)) sd<=2^(3*n)
theorem lA.init {m:List Int} {n:Nat} (hp:bD m n) {o:List Nat} (hn:o.Nodup) (hl:o.length=n) (hr: ∀c∈o,c<n) (iK:0<n):lA m n o 0 [⟨pS [],0,[1]⟩]:=by
 have hd:dK (pS [])=[]:=zm (by simp);refine ⟨⟨by simp [jX],fun g hg=>?_,fun g hg=>?_,fun g hg=>?_,fun g hg=>?_⟩,by simp,by simp,fun e=>?_,?_⟩
 ·simp only [List.mem_cons,zzH,or_false] at hg;subst hg;dsimp only;rw [hd];exact ⟨rfl,rfl,fun x hx=>by simp [dF] at hx,fun x hx=>by simp [dF] at hx,fun x hx=>by simp [dF] at hx⟩
 ·simp only [List.mem_cons,zzH,or_false] at hg;subst hg;simp
 ·simp only [List.mem_cons,zzH,or_false] at hg;subst hg;simp
 ·simp only [List.mem_cons,zzH,or_false] at hg;subst hg;simp
 ·rw [←JQ hp hn hl hr iK e];simp only [sumG,oq,hd,List.drop_zero,dF,Int.add_zero];refine sS m o [] [] (fun x=>?_) e;unfold gY;by_cases h0:x=0
  ·subst h0;rfl
  ·rw [if_neg h0]
   split
   ·rename_i h
    have:(x-0)/2≠0:=by omega
    obtain ⟨j,hj⟩: ∃j,((x-0)/2).toNat=j+1:=⟨((x-0)/2).toNat-1,by omega⟩;rw [hj];rfl
   ·rfl
 ·simp only [dG,jN,hd,List.drop_zero,dF,mxN]
  have:=Vn hp hn hl hr
  simpa using this
structure jK (m:List Int) (n:Nat) (o:List Nat) (k:Nat) (sd:List PE) (sn:List Nat) (G:List PE):Prop where
 nd:sn.Nodup
 rg: ∀i∈sn,i<sd.length
 ok:oe (dF m o (k+1)).length ((k:Int)+1) (2+200*(k:Int)+200) G
 len:G.length<=2*sn.length
 pos:sn≠[]->1<=G.length
 va: ∀e,sumG (oq m (o.drop (k+1)) (dF m o (k+1)) e) G=(sn.map fun i=>oq m (o.drop k) (dF m o k) e (sd.getD i ⟨ByteArray.empty,0,[]⟩)).sum
 nu:dG (jN m (o.drop (k+1)) (dF m o (k+1))) G<=(sn.map fun i=>jN m (o.drop k) (dF m o k) (sd.getD i ⟨ByteArray.empty,0,[]⟩)).sum
theorem jK.init (m:List Int) (n:Nat) (o:List Nat) (k:Nat) (sd:List PE):jK m n o k sd [] []:=
 ⟨by simp,by simp,oe.nil _ _ _,by simp,by simp,fun e=>rfl,by simp [dG]⟩
theorem JG (l:List Int) (x:Int):(l++[x]).sum=l.sum+x:=by rw [List.sum_append_int];simp
theorem Ot (F:PE->Int) (d:PE): ∀(sd:List PE),((List.range sd.length).map fun i=>F (sd.getD i d)).sum=sumG F sd
 |[]=>rfl
 |g::sd=>by
  rw [zzG,List.range_succ_eq_map,List.map_cons,List.map_map,List.sum_cons]
  have:=Ot F d sd
  simp only [sumG,←this];rfl
theorem GU (F:PE->Nat) (d:PE): ∀(sd:List PE),((List.range sd.length).map fun i=>F (sd.getD i d)).sum=dG F sd
 |[]=>rfl
 |g::sd=>by
  rw [zzG,List.range_succ_eq_map,List.map_cons,List.map_map,List.sum_cons]
  have:=GU F d sd
  simp only [dG,←this];rfl
theorem PA {l k:List Nat} (h:l.Perm k):l.sum=k.sum:=by
 induction h with
 |nil=>rfl
 |cons x _ ih=>simp only [List.sum_cons,ih]
 |swap x y l=>simp only [List.sum_cons];omega
 |trans _ _ h1 h2=>rw [h1,h2]
theorem Vl {sn:List Nat} {N:Nat} (hn:sn.Nodup) (hr: ∀i∈sn,i<N) (ha: ∀i,i<N->i∈sn):sn.Perm (List.range N):=
 (List.perm_ext_iff_of_nodup hn List.nodup_range).2 fun a=>⟨fun h=>List.mem_range.2 (hr a h),fun h=>ha a (List.mem_range.1 h)⟩
section
variable {m:List Int} {n:Nat} (hp:bD m n) {o:List Nat} (hn:o.Nodup) (hl:o.length=n) (hr: ∀c∈o,c<n) (pz:n<=14)
include hp hn hl hr pz
theorem jK.step {k:Nat} (hk:k<n) {sd:List PE} (hS:lA m n o k sd) {sn:List Nat} {G:List PE} (h:jK m n o k sd sn G) {i:Nat} {g:PE} (hi:sd[i]?=some g) (sZ:i∉sn):jK m n o k sd (sn++[i]) (pK m (o.getD k 0) (spN (o.drop (k+1))) (dF m o k) G g):=by
 obtain ⟨s1,s2⟩:=u5 hp hn hl hr k (by omega);have s3:=(u5 hp hn hl hr (k+1) (by omega)).2;rw [vm (by omega)] at s1;have hd:=s1.dj _ (zzD ..);have hg:g∈sd:=List.mem_of_getElem? hi;have hgo:=hS.ok.ok g hg;have e1:dF m o (k+1)=aE m (dF m o k) (o.getD k 0):=rfl;have w9:sd.getD i ⟨ByteArray.empty,0,[]⟩=g:=by rw [zzB,hi];rfl
 have hex:=JJ m (o.getD k 0) (spN (o.drop (k+1))) (dF m o k) G g;have cE:=h.ok;rw [e1] at cE s3;refine ⟨?_,fun j hj=>?_,?_,?_,fun _=>hex.2,fun e=>?_,?_⟩
 ·rw [List.nodup_append];refine ⟨h.nd,by simp,fun x hx y hy e=>?_⟩;simp only [List.mem_cons,zzH,or_false] at hy;exact sZ (hy▸e▸hx)
 ·rcases List.mem_append.1 hj with hj|hj
  ·exact h.rg j hj
  ·simp only [List.mem_cons,zzH,or_false] at hj;subst hj;exact (List.getElem?_eq_some_iff.1 hi).1
 ·rw [e1];exact IE hp s1.he hd.2 hd.1 (by omega) (by omega) hgo.2 (hS.ok.pr g hg) (hS.ok.rg g hg) (hS.ok.ne g hg) _ cE
 ·have:=h.len
  simp only [zzF,zzG,List.length_nil];omega
 ·rw [e1,ID hp s1.he hd.2 hd.1 (by omega) (by omega) hgo.2 (hS.ok.pr g hg) _ (hS.ok.rg g hg) (hS.ok.ne g hg) cE e];rw [List.map_append,List.map_cons,List.map_nil,JG,w9,←h.va e,e1,vm (show k<o.length by omega)]
 ·have h1:=Jh hp s1.he hd.2 hd.1 (by omega) (by omega) hgo.2 G (o.drop (k+1)) (spN (o.drop (k+1)));have h2:=h.nu;rw [e1] at h2⊢;rw [List.map_append,List.map_cons,List.map_nil,List.sum_append,w9,vm (show k<o.length by omega)];rw [vm (show k<o.length by omega)] at h2;simp only [List.sum_cons,List.sum_nil,Nat.add_zero];omega
omit hp hn hl hr pz in
theorem jK.all {k:Nat} {sd:List PE} (hS:lA m n o k sd) {sn:List Nat} {G:List PE} (h:jK m n o k sd sn G) (ha: ∀i,i<sd.length->i∈sn):lA m n o (k+1) G:=by
 have hp:=Vl h.nd h.rg ha;have dL:sn.length=sd.length:=by have:=hp.length_eq;simpa using this
 have hlen:=h.len;have hsd:=hS.len;have j8:=hS.pos;refine ⟨?_,by rw [Nat.pow_succ];omega,h.pos (fun e=>by rw [e] at dL;simp at dL;omega),fun e=>?_,?_⟩
 ·have e2:2+200*((k+1:Nat):Int)=2+200*(k:Int)+200:=by omega
  rw [e2,show ((k+1:Nat):Int)=(k:Int)+1 by omega];exact h.ok
 ·rw [h.va e,Hl (hp.map _),Ot (fun g=>oq m (o.drop k) (dF m o k) e g)];exact hS.va e
 ·have h1:=h.nu;rw [PA (hp.map _),GU (fun g=>jN m (o.drop k) (dF m o k) g)] at h1;exact Nat.le_trans h1 hS.nu
end
theorem QX {m:List Int} {r:List Nat} {ends:List Int} {G:List PE} {B:Nat} (h:dG (jN m r ends) G<=B) {g:PE} (hg:g∈G):mxN g.cs<=B:=by
 have h1:=GY (F:=jN m r ends) hg;have h2:=D6 m r ends (dK g.key);have h3:mxN g.cs*1<=jN m r ends g:=Nat.mul_le_mul_left _ h2;omega
theorem Ue (f:Nat->Nat) {sn:List Nat} {N:Nat} (hn:sn.Nodup) (hr: ∀i∈sn,i<N):(sn.map f).sum<=((List.range N).map f).sum:=by
 have hp:(sn++(List.range N).filter fun i=> !sn.contains i).Perm (List.range N):=by
  refine (List.perm_ext_iff_of_nodup ?_ List.nodup_range).2 fun a=>?_
  ·rw [List.nodup_append];refine ⟨hn,List.nodup_range.filter _,fun x hx y hy e=>?_⟩;subst e
   have:=(List.mem_filter.1 hy).2
   simp at this;exact this hx
  ·simp only [List.mem_append,List.mem_filter,zzK];constructor
   ·rintro (h|h)
    ·exact hr a h
    ·exact h.1
   ·intro h;by_cases ha:a∈sn
    ·exact .inl ha
    ·exact .inr ⟨h,by simpa using ha⟩
 rw [←PA (hp.map f),List.map_append,List.sum_append];omega
theorem jK.mx {m:List Int} {n:Nat} {o:List Nat} {k:Nat} {sd:List PE} (hS:lA m n o k sd) {sn:List Nat} {G:List PE} (h:jK m n o k sd sn G) {x:PE} (hx:x∈G):mxN x.cs<=2^(3*n):=by
 refine QX (Nat.le_trans h.nu (Nat.le_trans (Ue _ h.nd h.rg) ?_)) hx;rw [GU (fun g=>jN m (o.drop k) (dF m o k) g)];exact hS.nu
theorem Bb {m:List Int} {r:List Nat} {c:Nat} {ends:List Int} {g:PE} {B:Nat} (h:jN m (c::r) ends g<=B) (b:Bool):2^ct m ends c (dK g.key) b*mxN g.cs<=B:=by
 have key:2^ct m ends c (dK g.key) b<=nmR m (c::r) ends (dK g.key):=by
  have h0:=D6 m r (aE m ends c) (df m ends c (dK g.key) false);have h1:=D6 m r (aE m ends c) (df m ends c (dK g.key) true);have k0:=Nat.mul_le_mul_left (2^ct m ends c (dK g.key) false) h0;have k1:=Nat.mul_le_mul_left (2^ct m ends c (dK g.key) true) h1;simp only [nmR];cases b<;>omega
 have:=Nat.mul_le_mul_left (mxN g.cs) key
 rw [Nat.mul_comm];exact Nat.le_trans this h
theorem JF {sd:List PE} {sn:List Nat} {G:List PE} {F A:Fr} {H0:Hp} (hA: ∀q∈A,fget F q.1=q.2/\q.1<1000000/\s3 de q.2=true) (hl: ∀t,1000000<=t->fget F t= .any) (hH: ∀i o,hget (aM sd sn G) i=some o->hget H0 i=some o):Wk F H0 A (aM sd sn G):=by
 have:=GW (Dg (A:=A) (fr1:=[]) hA (fun t ht=>hl t ht) rfl) hH
 simpa [lft] using this
def A9:Hp:=(1000005, .gone)::de
theorem Vk {k:Nat} (h:(hget A9 k).isSome=true):k=1000005\/k=1\/k=2\/k=1000002\/k=1000003\/k=1000004:=by
 simp only [A9,hget] at h
 split at h
 ·omega
 ·exact .inr (yr h)
theorem JE {fr:Fr} {H:Hp} (h:fr.all (fun q=>s3 H q.2)=true) (t:Nat):fget fr t= .any\/s3 H (fget fr t)=true:=Di h t
theorem TM {F A:Fr} (hA: ∀q∈A,fget F q.1=q.2) (t:Nat):fget A t=fget F t\/fget A t= .any:=by
 induction A with
 |nil=>exact .inr rfl
 |cons q A ih=>
  obtain ⟨s,x⟩:=q;simp only [fget]
  split
  ·rename_i e;subst e;exact .inl (hA (s,x) (zzD ..)).symm
  ·exact ih fun q hq=>hA q (zzE _ hq)
theorem JD {sd:List PE} {sn:List Nat} {G:List PE} (hG:G.length<=900000) {F A:Fr} (hF:F.all (fun q=>s3 A9 q.2)=true) (hA: ∀q∈A,fget F q.1=q.2) (hs:A.all (fun q=>s3 [(1000005, .iter 1000002 G.length [] G.length),(1000003, .cells 138 (.lst [.mp 1000002])),(1000002, .gmap 138 G.length (ei 0 G)),(1, .cells 29 (.lst [.bool false, .nils])),(1000000, .gone)] q.2)=true):
  Wk F ((1000005, .iter 1000002 G.length [] G.length)::aM sd sn G) A [(1000005, .iter 1000002 G.length [] G.length),(1000003, .cells 138 (.lst [.mp 1000002])),(1000002, .gmap 138 G.length (ei 0 G)),(1, .cells 29 (.lst [.bool false, .nils])),(1000000, .gone)]:=by
 have cK: ∀k,k<10\/1000000<=k->hget (dH 0 G) k=none:=fun k hk=>O1 (by omega);have h5: ∀k,(hget A9 k).isSome=true->hget (dH 0 G) k=none:=fun k hk=>cK k (by have:=Vk hk;omega);have e:hsel ((1000005, .iter 1000002 G.length [] G.length)::aM sd sn G) ((List.range' 0 G.length).map (· +10))=dH 0 G:=by
  refine PB _ G 0 fun k g hk=>?_
  have:=(List.getElem?_eq_some_iff.1 hk).1
  simp only [hget]
  repeat rw [if_neg (by omega)]
  rw [show 0+k+10=k+10 by omega];exact dc hk
 have f1:=Na h5 hF;have BG: ∀(X:List PE) (i:Nat),(∀k g,X[k]?=some g->G[i+k]?=some g)->yc8 (dH 0 G) (dH i X):=by
  intro X
  induction X with
  |nil=>exact fun _ _=>trivial
  |cons g X ih=>exact fun i hX=>⟨trivial,ih (i+1) fun k g hk=>by rw [show i+1+k=i+(k+1) by omega];exact hX (k+1) g hk⟩
 have h2:yc8 (dH 0 G) ((1000005, .iter 1000002 G.length [] G.length)::aM sd sn G):=by
  refine ⟨trivial,trivial,?_,?_,?_,?_,trivial,BG G 0 fun k g hk=>by rw [Nat.zero_add];exact hk⟩
  ·intro x hx;simp only [List.mem_cons,zzH,or_false] at hx;subst hx;trivial
  ·intro q hq;obtain ⟨k,g,hk,rfl⟩:=D4 _ _ _ hq;have h0:=dc hk;simp only [aP,List.forall_mem_cons,show 0+k+10=k+10 by omega,h0,c9];refine ⟨trivial,?_,by simp⟩;simp [Cs.len]
  ·intro q hq;obtain ⟨k,g,hk,rfl⟩:=oh _ _ _ hq;simp only [aP,List.forall_mem_cons];exact ⟨trivial,trivial,by simp⟩
  ·intro x hx;simp only [List.mem_cons,zzH,or_false] at hx;rcases hx with rfl|rfl<;>trivial
 refine (Wk.jU _ (by rw [e];exact f1.1) (by rw [e];exact h2) rfl rfl).trans ?_;rw [e,f1.2];have n8:=Nd G G 0 fun k g hk=>by rw [Nat.zero_add];exact hk
 refine Wk.tM (fun t=>?_) fun i o' hi=>?_
 ·rcases JE hs t with h|h
  ·exact .inl h
  ·rcases TM hA t with g|g
   ·exact .inr ⟨g,h⟩
   ·exact .inl g
 ·simp only [cG,frzO,cK 1000005 (by omega),cK 1000004 (by omega),cK 1000003 (by omega),cK 1000002 (by omega),cK 2 (by omega),cK 1 (by omega),cK 1000000 (by omega),n8];simp only [hget] at hi⊢
  split at hi
  ·rename_i e1;subst e1;cases hi;exact ⟨by simp,rfl⟩
  split at hi
  ·rename_i e1;subst e1;cases hi;exact ⟨by simp;rfl,rfl⟩
  split at hi
  ·rename_i e1;subst e1;cases hi
   refine ⟨by simp,List.all_eq_true.2 fun q hq=>?_⟩;obtain ⟨k,g,_,rfl⟩:=oh _ _ _ hq;rfl
  split at hi
  ·rename_i e1;subst e1;cases hi;exact ⟨by simp;exact ⟨rfl,rfl⟩,rfl⟩
  split at hi
  ·rename_i e1;subst e1;cases hi;exact ⟨by simp,rfl⟩
  ·cases hi
def fN:Tr:= .node [(0, .node [(1, .node [(2,trD [3,4]),(3,trD [2,4])]),(3,trD [1,2,4])]),(1, .node [(0, .node [(2,trD [3,4]),(3,trD [2,4])]),(2,trD [0,3,4])])]
abbrev FL (m ends:List Int) (c:Nat):Cs:= .lst [I ends.length,roI (aS m ends c),roI (c6 m ends c),roI (aE m ends c)]
def dU (cs:List Int) (k:Nat):List Int:=(List.range (2*cs.length)).map fun i=>if i % 2=0/\i/2<k then cs.getD (i/2) 0 else 0
theorem yp (cs:List Int) (k:Nat):(dU cs k).length=2*cs.length:=by simp [dU]
theorem Je (cs:List Int):dU cs 0=List.replicate (2*cs.length) 0:=by
 apply List.ext_getElem?;intro i;by_cases h:i<2*cs.length<;>simp [dU,h]
theorem WH (cs:List Int) (k:Nat) (hk:k<cs.length):(dU cs k).set (2*k) (cs.getD k 0)=dU cs (k+1):=by
 apply List.ext_getElem?;intro i;rw [List.getElem?_set,yp];by_cases e:2*k=i
 ·subst e;rw [if_pos rfl,if_pos (by omega)];simp only [dU,List.getElem?_map,List.getElem?_range (show 2*k<2*cs.length by omega),Option.map_some];rw [if_pos (by omega),show 2*k/2=k by omega]
 ·rw [if_neg e];by_cases hi:i<2*cs.length
  ·simp only [dU,List.getElem?_map,List.getElem?_range hi,Option.map_some];by_cases h1:i % 2=0/\i/2<k
   ·rw [if_pos h1,if_pos (by omega)]
   ·rw [if_neg h1,if_neg (by omega)]
  ·simp [dU,hi]
theorem Jd (lo:Int) (cs:List Int) (e:Int):cfL (tmI lo (dU cs cs.length)) e=gY lo cs e:=by
 rw [zR];unfold gY;by_cases h:lo<=e
 ·rw [if_pos h];obtain ⟨j,hj⟩: ∃j:Nat,e=lo+j:=⟨(e-lo).toNat,by omega⟩;subst hj;rw [show (lo+(j:Int)-lo).toNat=j by omega,show ((lo+(j:Int)-lo)/2).toNat=j/2 by omega];by_cases h1:j<2*cs.length
  ·simp only [dU,zzB,List.getElem?_map,List.getElem?_range h1,Option.map_some,Option.getD_some];by_cases h2:j % 2=0
   ·rw [if_pos ⟨h2,by omega⟩,if_pos (by omega)]
   ·rw [if_neg fun g=>h2 g.1,if_neg (by omega)]
  ·rw [mc (by rw [yp];omega)]
   split
   ·rw [mc (by omega)]
   ·rfl
 ·rw [if_neg h,if_neg fun g=>h g.1]
theorem JC (HF:Hp) (sd:List PE):(ei 0 sd).map (fun q=>(q.1,q.2.1,aI HF 4 q.2.2))=ei 0 sd:=by
 conv=>rhs;rw [←List.map_id (ei 0 sd)]
 exact List.map_congr_left fun q hq=>by obtain ⟨k,g,_,rfl⟩:=oh _ _ _ hq;rfl
theorem Vj (HF:Hp) (sd:List PE):(∀q∈ei 0 sd,aP HF 4 q.2.2)=True:=by
 rw [eq_iff_iff,iff_true];intro q hq;obtain ⟨k,g,_,rfl⟩:=oh _ _ _ hq;simp only [aP,List.forall_mem_cons];exact ⟨trivial,trivial,by simp⟩
theorem zr (H:Hp) (sd:List PE):(ei 0 sd).all (fun q=>s3 H q.2.2)=true:=List.all_eq_true.2 fun q hq=>by obtain ⟨k,g,_,rfl⟩:=oh _ _ _ hq;rfl
theorem RS (sd:List PE): ∀q∈ei 0 sd,q.2.1<sd.length:=fun q hq=>by
 obtain ⟨k,g,hk,rfl⟩:=oh _ _ _ hq
 have:=(List.getElem?_eq_some_iff.1 hk).1
 simp only;omega
theorem Vi {sd:List PE} (hk:jX sd) {i:Nat} {g:PE} (h:sd[i]?=some g):kj (ei 0 sd) g.key=some (g.key,i,tpA g.lo g.cs):=by
 have key: ∀(G:List PE) (i j:Nat) (g:PE),jX G->G[j]?=some g->kj (ei i G) g.key=some (g.key,i+j,tpA g.lo g.cs):=by
  intro G
  induction G with
  |nil=>intro i j g _ h;simp at h
  |cons a G ih=>
   intro i j g hk h
   match j,h with
   |0,h=>
    simp only [List.getElem?_cons_zero,Option.some.injEq] at h;subst h;simp [kj,ei]
   |j+1,h=>
    simp only [List.getElem?_cons_succ] at h;unfold jX at hk;rw [List.map_cons,List.nodup_cons] at hk;have av:a.key≠g.key:=fun e=>hk.1 (e▸List.mem_map.2 ⟨g,List.mem_of_getElem? h,rfl⟩)
    have:=ih (i+1) j g hk.2 h
    unfold kj at this⊢;simp only [ei,List.find?_cons];rw [show decide (a.key=g.key)=false by simpa using av,this];simp only [show i+1+j=i+(j+1) by omega]
 have:=key sd 0 i g hk h
 rwa [Nat.zero_add] at this
theorem P9 {sd:List PE} {i:Nat} {g:PE} (h:sd[i]?=some g):List.find? (fun q=>q.2.1==i) (ei 0 sd)=some (g.key,i,tpA g.lo g.cs):=by
 have key: ∀(G:List PE) (a j:Nat) (g:PE),G[j]?=some g->List.find? (fun q=>q.2.1==a+j) (ei a G)=some (g.key,a+j,tpA g.lo g.cs):=by
  intro G
  induction G with
  |nil=>intro a j g h;simp at h
  |cons b G ih=>
   intro a j g h
   match j,h with
   |0,h=>
    simp only [List.getElem?_cons_zero,Option.some.injEq] at h;subst h;simp [ei]
   |j+1,h=>
    simp only [List.getElem?_cons_succ] at h
    have:=ih (a+1) j g h
    simp only [ei,List.find?_cons];rw [show (a==a+(j+1))=false by simp,show a+(j+1)=a+1+j by omega];exact this
 have:=key sd 0 i g h
 rwa [Nat.zero_add] at this
theorem CI {F A:Fr} (hA: ∀q∈A,fget F q.1=q.2) (hs:A.all (fun q=>s3 de q.2)=true) (t:Nat):fget A t= .any\/(fget A t=fget F t/\s3 de (fget A t)=true):=by
 rcases Di hs t with h|h
 ·exact .inl h
 ·rcases TM hA t with g|g
  ·exact .inr ⟨g,h⟩
  ·exact .inl g
theorem RR (i j:Nat) (sd:List PE):(ei 0 sd).map (fun q=>(q.1,q.2.1,swV i j 4 q.2.2))=ei 0 sd:=by
 conv=>rhs;rw [←List.map_id (ei 0 sd)]
 exact List.map_congr_left fun q hq=>by obtain ⟨k,g,_,rfl⟩:=oh _ _ _ hq;rfl
structure TV (m:List Int) (n:Nat) (o:List Nat) (k:Nat) (sd:List PE):Prop where
 ok:oe (dF m o k).length (k:Int) (2+200*(k:Int)) sd
 len:sd.length<=16384
 pos:1<=sd.length
 cc:k<n-> ∀g∈sd,∀b,2^ct m (dF m o k) (o.getD k 0) (dK g.key) b*mxN g.cs<=4398046511104
 mx: ∀g∈sd,mxN g.cs<=4398046511104
structure MN (m:List Int) (o:List Nat) (k:Nat) (sd:List PE) (sn:List Nat) (G:List PE):Prop where
 nd:sn.Nodup
 rg: ∀i∈sn,i<sd.length
 ok:oe (dF m o (k+1)).length ((k:Int)+1) (2+200*(k:Int)+200) G
 len:G.length<=2*sn.length
 mx: ∀x∈G,mxN x.cs<=4398046511104
theorem MN.aN {m:List Int} {o:List Nat} {k:Nat} {sd:List PE} {sn:List Nat} {G:List PE} (h:MN m o k sd sn G):sn.length<=sd.length:=by
 have:=sT h.nd (k:=List.range sd.length) fun i hi=>List.mem_range.2 (h.rg i hi)
 simpa using this
structure TU (m:List Int) (n:Nat) (o:List Nat) (SD:Nat->List PE->Prop) (MD:Nat->List PE->List Nat->List PE->Prop):Prop where
 init:SD 0 [⟨pS [],0,[1]⟩]
 sb: ∀{k sd},k<=n->SD k sd->TV m n o k sd
 mi: ∀{k sd},SD k sd->MD k sd [] []
 mb: ∀{k sd sn G},k<n->SD k sd->MD k sd sn G->MN m o k sd sn G
 st: ∀{k sd sn G i g},k<n->SD k sd->MD k sd sn G->sd[i]?=some g->i∉sn->MD k sd (sn++[i]) (pK m (o.getD k 0) (spN (o.drop (k+1))) (dF m o k) G g)
 al: ∀{k sd sn G},k<n->SD k sd->MD k sd sn G->(∀i,i<sd.length->i∈sn)->SD (k+1) G
 wd: ∀k,k<=n->(dF m o k).length<=56
theorem JB {m:List Int} {n:Nat} {o:List Nat} {sd:List PE} (h:TV m n o n sd) (he:dF m o n=[]): ∃g:PE,sd=[g]/\g.key=pS []:=by
 have hk: ∀g∈sd,g.key=pS []:=fun g hg=>by
  obtain ⟨h1,h2⟩:=h.ok.ok g hg;rw [he] at h2;rw [h1,List.length_eq_zero_iff.1 h2.len]
 match sd,h,hk with
 |[],h,_=>have:=h.pos;simp at this
 |[g],h,hk=>exact ⟨g,rfl,hk g (zzD ..)⟩
 |g::g'::r,h,hk=>
  have h1:=h.ok.nd;unfold jX at h1;simp only [List.map_cons,List.nodup_cons,List.mem_cons,not_or] at h1;exact absurd ((hk g (zzD ..)).trans (hk g' (zzE _ (zzD ..))).symm) h1.1.1
theorem WT (s m:List Int) (L:Int) (hp:bD m s.length) {o:List Nat} (hn:o.Nodup) (hl:o.length=s.length) (hr: ∀c∈o,c<s.length) (YC:s.length<=64) (iK:0<s.length) {SD:Nat->List PE->Prop} {MD:Nat->List PE->List Nat->List PE->Prop} (hW:TU m s.length o SD MD)
  {R:List (Int×Int)} (hR: ∀g,SD s.length [g]->tmI g.lo (dU g.cs g.cs.length)=R):Fn Tryz.prog 73 [dgA s m L,roI (o.map (Nat.cast:Nat->Int))] (.tup [plA false R, .bool true]):=by
 have gP: ∀k,(o.map (Nat.cast:Nat->Int)).getD k 0=((o.getD k 0:Nat):Int):=fun k=>by
  simp only [zzB,List.getElem?_map];cases o[k]?<;>rfl
 have cI:(o.map (Nat.cast:Nat->Int)).length=s.length:=by rw [List.length_map,hl]
 obtain ⟨om,px⟩: ∃om,o.map (Nat.cast:Nat->Int)=om:=⟨_,rfl⟩;rw [px] at gP cI⊢;refine Fn.ai [.cell 4 29, .tmp 5] Tryz.func73 rfl rfl (by decide) (by simp [Tryz.ntmps73]) ?_;rw [Tryz.ntmps73]
 repeat' (first|omega|(try apply ag);simp only [go_sem,sevalprocAttr]|apply ae<;>(intro h_;(try simp only [h_]);revert h_)|apply And.intro|with_reducible intro h_|trivial|simp only [go_sem,ah];omega)
 refine dS.insert (id:=2) (ob:= .gmap 138 1 [(⟨#[]⟩,0, .agg [I 0, .sl 1 3 0 1])]) rfl rfl (by simp only [go_sem,sevalprocAttr];rfl) ?_
 repeat' (first|omega|(try apply ag);simp only [go_sem,sevalprocAttr]|apply ae<;>(intro h_;(try simp only [h_]);revert h_)|apply And.intro|with_reducible intro h_|trivial|simp only [go_sem,ah];omega)
 refine aR.intro (fun n' fr H=> ∃(k:Nat) (sd:List PE),k<=s.length/\SD k sd/\n'=s.length-k/\fr=[(28,I k),(27,I s.length),(26,roI om),(7,roI (dF m o k)),(6, .mp 2),(4, .ptr 1 0),(2, .rp (.lst [roI s,roI m,I L]) 0),(1,roI om)]/\
  H=[(2, .gmap 138 sd.length (ei 0 sd)),(1, .cells 29 (.lst [.bool false, .nils])),(1000000, .gone)]) ?_ ?_
 ·refine ⟨_,_,_,?_,0,[⟨pS [],0,[1]⟩],by omega,hW.init,rfl,rfl,rfl⟩;refine (Wk.jU [0,3] ?_ ?_ rfl rfl).trans ((Wk.sub (fr':=[(28,I (0:Nat)),(27,I s.length),(26,roI om),(7, .nils),(6, .mp 2),(4, .ptr 1 0),(2, .rp (.lst [roI s,roI m,I L]) 0),(1,roI om)]) (H':=[(2, .gmap 138 1 (ei 0 [⟨pS [],0,[1]⟩])),(1, .cells 29 (.lst [.bool false, .nils]))]) ?_ ?_).trans ((Wk.le ?_).trans (Wk.gone 1000000 rfl)))
  ·simp only [go_sem,sevalprocAttr]
  ·simp only [go_sem,sevalprocAttr]
  ·simp only [go_sem,sevalprocAttr,cI]
  ·(simp only [go_sem,sevalprocAttr,ei])<;>rfl
  ·exact .cons (az.refl _) (.cons (az.refl _) (.cons (az.refl _) (.cons (az.nils (by decide) rfl) (iY.refl _))))
 rintro n' fr H ⟨k,sd,hk,xm,rfl,rfl,rfl⟩;have hS:=hW.sb hk xm;by_cases s7:k<s.length
 ·have bk:decide ((k:Int)<s.length)=true:=by simp;omega
  obtain ⟨s1,s2⟩:=u5 hp hn hl hr k (by omega);have s3:=(u5 hp hn hl hr (k+1) (by omega)).2;rw [vm (by omega)] at s1;have s5:=hW.wd k hk;have s4:(aE m (dF m o k) (o.getD k 0)).length<=56:=hW.wd (k+1) s7;have hd:=s1.dj _ (zzD ..);have Lf:=IQ s m L (dF m o k) (o.getD k 0) (by omega) hp.ok hd.2 (by omega) (fun i hi=>by
   have:=(s1.he.at hi).1
   unfold aw at this;exact this)
  have Cb:=gP k
  repeat' (first|omega|(first|apply ag|(refine aj.intro (id:=21) [[67,68],[66,6],[66,6],[67,68],[]] [[],[0],[0],[1,2],[]] (by decide+kernel) mixed ?_)|(refine aj.ay (id:=21) (fN) (by decide+kernel) mixed ?_)|skip);simp only [go_sem,sevalprocAttr,bk,Cb,cI,zzC,↓reduceIte,reduceCtorEq,fN]|apply ae<;>(intro h_;(try simp only [h_]);revert h_)|apply And.intro|with_reducible intro h_|trivial|simp only [go_sem,ah];omega)
  refine ⟨au.fn rfl Lf ?_⟩;have Lb:(((k:Int)==(s.length:Int)-1)=true/\spN (o.drop (k+1))=1)\/(((k:Int)==(s.length:Int)-1)=false/\spN (o.drop (k+1))=0):=by
   by_cases gG:k=s.length-1
   ·left;refine ⟨by simp;omega,?_⟩;rw [List.drop_eq_nil_of_le (by omega)];rfl
   ·right;refine ⟨by simp;omega,?_⟩;rw [vm (show k+1<o.length by omega)];rfl
  have uk:=JC;have vQ:=Vj;have oG:=zr;rcases Lb with ⟨b1,eI⟩|⟨b1,eI⟩
  all_goals (
   repeat' (first|omega|(first|apply ag|(refine aj.intro (id:=21) [[67,68],[66,6],[66,6],[67,68],[]] [[],[0],[0],[1,2],[]] (by decide+kernel) mixed ?_)|(refine aj.ay (id:=21) (fN) (by decide+kernel) mixed ?_)|skip);simp only [go_sem,sevalprocAttr,b1,cI,↓reduceIte,reduceCtorEq,fN]|apply ae<;>(intro h_;(try simp only [h_]);revert h_)|apply And.intro|with_reducible intro h_|trivial|simp only [go_sem,ah];omega)
   refine dS.range (kt:=9) (et:=137) (mid:=2) rfl rfl (by simp only [go_sem,sevalprocAttr]) rfl rfl ?_
   repeat' (first|omega|(first|apply ag|(refine aj.intro (id:=21) [[67,68],[66,6],[66,6],[67,68],[]] [[],[0],[0],[1,2],[]] (by decide+kernel) mixed ?_)|(refine aj.ay (id:=21) (fN) (by decide+kernel) mixed ?_)|skip);simp only [go_sem,sevalprocAttr,b1,cI,↓reduceIte,reduceCtorEq,fN]|apply ae<;>(intro h_;(try simp only [h_]);revert h_)|apply And.intro|with_reducible intro h_|trivial|simp only [go_sem,ah];omega)
   refine aR.intro (fun n' fr H=> ∃(sn:List Nat) (G:List PE),MD k sd sn G/\n'=sd.length-sn.length/\fr=[(45, .ptr 1000004 0),(13, .fn 111 [.ptr 1000003 0]),(12, .ptr 1000003 0),(11,I (spN (o.drop (k+1)))),(10, .rp (FL m (dF m o k) (o.getD k 0)) 0),(28,I k),(27,I s.length),(26,roI om),(4, .ptr 1 0),(2, .rp (.lst [roI s,roI m,I L]) 0),(1,roI om)]/\
    H=aM sd sn G) ?_ ?_
   ·refine ⟨_,_,_,(Wk.jU [1000001] ?_ ?_ rfl rfl).trans (Wk.sub ?_ ?_),[],[],hW.mi xm,rfl,rfl,rfl⟩
    ·simp only [go_sem,sevalprocAttr]
    ·simp only [go_sem,sevalprocAttr,vQ]
    ·(simp only [go_sem,sevalprocAttr,uk,eI,cI])<;>rfl
    ·refine ⟨by simp only [go_sem,sevalprocAttr,uk],rfl,by simp only [go_sem,sevalprocAttr,uk],rfl,by (simp only [go_sem,sevalprocAttr,uk])<;>rfl,rfl,by simp only [go_sem,sevalprocAttr,uk],zr _ sd,by simp only [go_sem,sevalprocAttr,uk],rfl,by simp only [go_sem,sevalprocAttr,uk],rfl,trivial⟩
   rintro n' fr H ⟨sn,G,Ft,rfl,rfl,rfl⟩;have hM:=hW.mb s7 xm Ft
   repeat' (first|omega|(first|apply ag|(refine aj.intro (id:=21) [[67,68],[66,6],[66,6],[67,68],[]] [[],[0],[0],[1,2],[]] (by decide+kernel) mixed ?_)|(refine aj.ay (id:=21) (fN) (by decide+kernel) mixed ?_)|skip);simp only [go_sem,sevalprocAttr,cI,↓reduceIte,reduceCtorEq,fN]|apply ae<;>(intro h_;(try simp only [h_]);revert h_)|apply And.intro|with_reducible intro h_|trivial|simp only [go_sem,ah];omega)
   refine dS.next (iid:=1000004) (mid:=2) rfl rfl rfl rfl rfl (RS sd) (zzA _) (fun cF=>?_) (fun q hq BL=>?_)
   ·have Cu:=hW.al s7 xm Ft fun i hi=>by
     have:=cF _ (RB sd 0 i _ (zzI hi))
     simpa using this
    have TE:G.length<=900000:=by
     have h1:=hM.len;have h2:=hM.aN;have h3:=hS.len;omega
    have jd:max 1000001 (hnew (dH 0 G))=1000001:=by have:=qM G 0;omega
    repeat' (first|omega|(first|apply ag|(refine aj.intro (id:=21) [[67,68],[66,6],[66,6],[67,68],[]] [[],[0],[0],[1,2],[]] (by decide+kernel) mixed ?_)|(refine aj.ay (id:=21) (fN) (by decide+kernel) mixed ?_)|skip);simp only [go_sem,sevalprocAttr,cI,↓reduceIte,reduceCtorEq,fN]|apply ae<;>(intro h_;(try simp only [h_]);revert h_)|apply And.intro|with_reducible intro h_|trivial|simp only [go_sem,ah];omega)
    refine dS.range (kt:=9) (et:=137) (mid:=1000002) rfl rfl (by simp only [go_sem,sevalprocAttr]) rfl rfl ?_
    repeat' (first|omega|(first|apply ag|(refine aj.intro (id:=21) [[67,68],[66,6],[66,6],[67,68],[]] [[],[0],[0],[1,2],[]] (by decide+kernel) mixed ?_)|(refine aj.ay (id:=21) (fN) (by decide+kernel) mixed ?_)|skip);simp only [go_sem,sevalprocAttr,jd,cI,↓reduceIte,reduceCtorEq,fN]|apply ae<;>(intro h_;(try simp only [h_]);revert h_)|apply And.intro|with_reducible intro h_|trivial|simp only [go_sem,ah];omega)
    refine aR.intro (fun n' fr H=> ∃qQ:List Nat,qQ.Nodup/\(∀i∈qQ,i<G.length)/\n'=G.length-qQ.length/\fr=[(58, .ptr 1000005 0),(12, .ptr 1000003 0),(10, .rp (FL m (dF m o k) (o.getD k 0)) 0),(28,I k),(27,I s.length),(26,roI om),(4, .ptr 1 0),(2, .rp (.lst [roI s,roI m,I L]) 0),(1,roI om)]/\H=[(1000005, .iter 1000002 G.length qQ G.length),(1000003, .cells 138 (.lst [.mp 1000002])),(1000002, .gmap 138 G.length (ei 0 G)),(1, .cells 29 (.lst [.bool false, .nils])),(1000000, .gone)]) ?_ ?_
    ·refine ⟨_,_,_,JD TE ?_ ?_ ?_,[],by simp,by simp,rfl,rfl,rfl⟩
     ·simp only [go_sem,sevalprocAttr,A9,de,cI]
     ·simp only [go_sem,sevalprocAttr,List.forall_mem_cons,cI]
     ·simp only [go_sem,sevalprocAttr,cI]
    rintro n' fr H ⟨qQ,BP,BK,rfl,rfl,rfl⟩;have Yf:qQ.length<=G.length:=by
     have:=sT BP (k:=List.range G.length) fun i hi=>List.mem_range.2 (BK i hi)
     simpa using this
    repeat' (first|omega|(first|apply ag|(refine aj.intro (id:=21) [[67,68],[66,6],[66,6],[67,68],[]] [[],[0],[0],[1,2],[]] (by decide+kernel) mixed ?_)|(refine aj.ay (id:=21) (fN) (by decide+kernel) mixed ?_)|skip);simp only [go_sem,sevalprocAttr,cI,↓reduceIte,reduceCtorEq,fN]|apply ae<;>(intro h_;(try simp only [h_]);revert h_)|apply And.intro|with_reducible intro h_|trivial|simp only [go_sem,ah];omega)
    refine dS.next (iid:=1000005) (mid:=1000002) rfl rfl rfl rfl rfl (RS G) (zzA _) (fun Tq=>?_) (fun q hq BL=>?_)
    ·repeat' (first|omega|(first|apply ag|(refine aj.intro (id:=21) [[67,68],[66,6],[66,6],[67,68],[]] [[],[0],[0],[1,2],[]] (by decide+kernel) mixed ?_)|(refine aj.ay (id:=21) (fN) (by decide+kernel) mixed ?_)|skip);simp only [go_sem,sevalprocAttr,cI,↓reduceIte,reduceCtorEq,fN]|apply ae<;>(intro h_;(try simp only [h_]);revert h_)|apply And.intro|with_reducible intro h_|trivial|simp only [go_sem,ah];omega)
     any_goals exact zr [(1000005, .iter 1000002 G.length qQ G.length),(1000003, .cells 138 (.lst [.mp 1000002])),(1000002, .gmap 138 G.length (ei 0 G)),(1, .cells 29 (.lst [.bool false, .nils])),(1000000, .gone)] G
     refine ⟨_,_,_,?_,?_,k+1,G,by omega,Cu,rfl,rfl,rfl⟩
     ·omega
     ·refine Wk.nS (fr1:=[(28,I ((k+1:Nat):Int)),(27,I s.length),(26, .ro 1 s.length (.ints om)),(7,roI (dF m o (k+1))),(6, .mp 1000002),(4, .ptr 1 0),(2, .rp (.lst [roI s,roI m,I L]) 0),(1, .ro 1 s.length (.ints om))]) (H1:=[(1000002, .gmap 138 G.length (ei 0 G)),(1, .cells 29 (.lst [.bool false, .nils])),(1000000, .gone)]) 1000002 2 ?_ ?_ ?_ ?_ ?_ ?_
      ·rfl
      ·simp only [swH,swO,RR,List.map_cons,List.map_nil];rfl
      ·rfl
      ·simp only [swH,swO,RR,List.map_cons,List.map_nil];rfl
      ·(simp only [go_sem,sevalprocAttr,cI])<;>exact ⟨rfl,rfl⟩
      ·exact ⟨rfl,zr _ G,rfl,rfl,rfl,rfl,trivial⟩
    ·obtain ⟨i,g,hi,rfl⟩:=oh _ _ _ hq;simp only [Nat.zero_add] at BL hq;have l6:=P9 hi;have wX:(qQ++[i]).getLast?=some i:=by simp
     have n8:g∈G:=List.mem_of_getElem? hi;have pI:=Jf g.lo g.cs (by have:=hM.ok.rg g n8;omega) (by
      have h1:=hM.mx g n8;omega)
     have bH:=(List.getElem?_eq_some_iff.1 hi).1;have BO:(qQ++[i]).Nodup:=by
      rw [List.nodup_append];refine ⟨BP,by simp,fun x hx y hy e=>?_⟩;simp only [List.mem_cons,zzH,or_false] at hy;exact BL (hy▸e▸hx)
     have BI: ∀j∈qQ++[i],j<G.length:=fun j hj=>by
      rcases List.mem_append.1 hj with hj|hj
      ·exact BK j hj
      ·simp only [List.mem_cons,zzH,or_false] at hj;subst hj;exact bH
     have Lc:=sT BO (k:=List.range G.length) fun i hi=>List.mem_range.2 (BI i hi);simp only [zzF,zzG,List.length_nil,zzJ] at Lc
     repeat' (first|omega|(first|apply ag|(refine aj.intro (id:=21) [[67,68],[66,6],[66,6],[67,68],[]] [[],[0],[0],[1,2],[]] (by decide+kernel) mixed ?_)|(refine aj.ay (id:=21) (fN) (by decide+kernel) mixed ?_)|skip);simp only [go_sem,sevalprocAttr,cI,l6,wX,Nat.zero_add,↓reduceIte,reduceCtorEq,fN]|apply ae<;>(intro h_;(try simp only [h_]);revert h_)|apply And.intro|with_reducible intro h_|trivial|simp only [go_sem,ah];omega)
     refine ⟨au.fn rfl pI ?_⟩
     repeat' (first|omega|(first|apply ag|(refine aj.intro (id:=21) [[67,68],[66,6],[66,6],[67,68],[]] [[],[0],[0],[1,2],[]] (by decide+kernel) mixed ?_)|(refine aj.ay (id:=21) (fN) (by decide+kernel) mixed ?_)|skip);simp only [go_sem,sevalprocAttr,cI,↓reduceIte,reduceCtorEq,fN]|apply ae<;>(intro h_;(try simp only [h_]);revert h_)|apply And.intro|with_reducible intro h_|trivial|simp only [go_sem,ah];omega)
     refine ⟨_,_,_,?_,Wk.sub ?_ ?_,qQ++[i],BO,BI,rfl,rfl,rfl⟩
     ·simp only [zzF,zzG,List.length_nil];omega
     ·simp only [go_sem,sevalprocAttr,cI]
     ·exact ⟨rfl,rfl,rfl,rfl,rfl,zr _ G,rfl,rfl,rfl,rfl,trivial⟩
   ·obtain ⟨i,g,hi,rfl⟩:=oh _ _ _ hq;simp only [Nat.zero_add] at BL hq;have l6:=P9 hi;have wX:(sn++[i]).getLast?=some i:=by simp
    have n8:g∈sd:=List.mem_of_getElem? hi;have oA:=hW.st s7 xm Ft hi BL;have iw:=(hW.mb s7 xm oA).aN;simp only [zzF,zzG,List.length_nil] at iw;have jd:max 1000001 (hnew (dH 0 G))=1000001:=by
     have:=qM G 0
     have:=hM.len
     have:=hS.len
     omega
    repeat' (first|omega|(first|apply ag|(refine aj.intro (id:=21) [[67,68],[66,6],[66,6],[67,68],[]] [[],[0],[0],[1,2],[]] (by decide+kernel) mixed ?_)|(refine aj.ay (id:=21) (fN) (by decide+kernel) mixed ?_)|skip);simp only [go_sem,sevalprocAttr,cI,l6,wX,jd,Nat.zero_add,↓reduceIte,reduceCtorEq,fN]|apply ae<;>(intro h_;(try simp only [h_]);revert h_)|apply And.intro|with_reducible intro h_|trivial|simp only [go_sem,ah];omega)
    refine ⟨au.inline (Uo (fr1:=[(45, .ptr 1000004 0),(13, .fn 111 [.ptr 1000003 0]),(12, .ptr 1000003 0),(11,I (spN (o.drop (k+1)))),(10, .rp (FL m (dF m o k) (o.getD k 0)) 0),(28,I k),(27,I s.length),(26,roI om),(4, .ptr 1 0),(2, .rp (.lst [roI s,roI m,I L]) 0),(1,roI om)]) hp s1.he hd.2 hd.1 (by omega) (by omega) sd (sn++[i]) G g (spN (o.drop (k+1))) (by cases o.drop (k+1)<;>simp [spN]) (hS.ok.ok g n8) (hS.ok.pr g n8) (hS.ok.rg g n8) (hS.ok.ne g n8) (by omega) hM.ok (by have:=hM.len;have:=hS.len;omega) (fun x hx=>by have:=hM.mx x hx;omega) (fun b=>?_) ?_ (GV (by simp) ?_ ?_ ?_) ?_)⟩
    ·have:=hS.cc s7 g n8 b
     omega
    ·rfl
    ·rfl
    ·refine CI ?_ rfl;simp only [go_sem,sevalprocAttr,List.forall_mem_cons,cI]
    ·intro i' o' pB;rw [hget,if_neg fun e=>by subst e;rw [Ag (by have:=hM.len;have:=hS.len;omega) (by omega)] at pB;cases pB];exact pB
    ·repeat' (first|omega|(first|apply ag|(refine aj.intro (id:=21) [[67,68],[66,6],[66,6],[67,68],[]] [[],[0],[0],[1,2],[]] (by decide+kernel) mixed ?_)|(refine aj.ay (id:=21) (fN) (by decide+kernel) mixed ?_)|skip);simp only [go_sem,sevalprocAttr,cI,↓reduceIte,reduceCtorEq,fN]|apply ae<;>(intro h_;(try simp only [h_]);revert h_)|apply And.intro|with_reducible intro h_|trivial|simp only [go_sem,ah];omega)
     refine ⟨_,_,_,?_,JF ?_ (fun t ht=>?_) (fun _ _ h=>h),sn++[i],_,oA,rfl,rfl,rfl⟩
     ·simp only [zzF,zzG,List.length_nil];omega
     ·simp only [go_sem,sevalprocAttr,List.forall_mem_cons,cI,de,Option.isSome_some]
     ·simp only [fget]
      repeat rw [if_neg (by omega)])
 ·obtain rfl:k=s.length:=by omega
  obtain ⟨s1,s2⟩:=u5 hp hn hl hr s.length (by omega);have qv:o.drop s.length=[]:=List.drop_eq_nil_of_le (by omega);have qz:dF m o s.length=[]:=Aa hp s1.he fun c hc=>by
   rcases s1.al c hc with g|g
   ·exact g
   ·rw [qv] at g;simp at g
  obtain ⟨g,rfl,Cb⟩:=JB hS qz;have n8:g∈[g]:=zzD ..;have mS:=hS.ok.rg g n8;have YE:=hS.mx g n8;have l6:kj (ei 0 [g]) ⟨#[]⟩=some (g.key,0,tpA g.lo g.cs):=by
   have:=Vi hS.ok.nd (i:=0) (g:=g) rfl
   rw [Cb] at this⊢;exact this
  have Ty:Fn Tryz.prog 43 [I g.lo, .ro 1 (2*g.cs.length) (.ints (dU g.cs g.cs.length))] (plA false (tmI g.lo (dU g.cs g.cs.length))):=by
   rw [←yp g.cs g.cs.length];exact FE g.lo (dU g.cs g.cs.length) (by rw [yp];omega) (by rw [yp];omega) (fun c hc=>by
    obtain ⟨i,hi,rfl⟩:=List.mem_iff_getElem.1 hc;have h1:=uU g.cs (i/2);simp only [dU,List.getElem_map,List.getElem_range]
    split<;>omega)
  have mT:=hR g xm;have bk:decide ((s.length:Int)<s.length)=false:=by simp
  have Zv:(2*(g.cs.length:Int)).toNat=2*g.cs.length:=by omega
  repeat' (first|omega|(first|apply ag|(refine aj.intro (id:=21) [[67,68],[66,6],[66,6],[67,68],[]] [[],[0],[0],[1,2],[]] (by decide+kernel) mixed ?_)|(refine aj.ay (id:=21) (fN) (by decide+kernel) mixed ?_)|skip);simp only [go_sem,sevalprocAttr,bk,l6,cI,Zv,↓reduceIte,reduceCtorEq,fN]|apply ae<;>(intro h_;(try simp only [h_]);revert h_)|apply And.intro|with_reducible intro h_|trivial|simp only [go_sem,ah];omega)
  refine aR.intro (fun n' fr H=> ∃j:Nat,j<=g.cs.length/\n'=g.cs.length-j/\fr=[(80,I j),(79,I g.cs.length),(78,roI g.cs),(19, .sl 1 1000002 0 (2*g.cs.length)),(18, .ptr 1000001 0),(4, .ptr 1 0)]/\
   H=[(1000002, .cells 3 (.ints (dU g.cs j))),(1000001, .cells 137 (.lst [I g.lo,roI g.cs])),(1, .cells 29 (.lst [.bool false, .nils]))]) ?_ ?_
  ·refine ⟨_,_,_,Wk.sub ?_ ?_,0,by omega,rfl,rfl,rfl⟩
   ·simp only [go_sem,sevalprocAttr]
   ·simp only [go_sem,sevalprocAttr,Je]
  rintro n' fr H ⟨j,hj,rfl,rfl,rfl⟩;have dL:=yp g.cs j;by_cases b9:j<g.cs.length
  ·have bj:decide ((j:Int)<g.cs.length)=true:=by simp;omega
   have e1:(2*(j:Int)).toNat=2*j:=by omega
   have aY:=WH g.cs j b9
   repeat' (first|omega|(first|apply ag|(refine aj.intro (id:=21) [[67,68],[66,6],[66,6],[67,68],[]] [[],[0],[0],[1,2],[]] (by decide+kernel) mixed ?_)|(refine aj.ay (id:=21) (fN) (by decide+kernel) mixed ?_)|skip);simp only [go_sem,sevalprocAttr,bj,e1,dL,aY,↓reduceIte,reduceCtorEq,fN]|apply ae<;>(intro h_;(try simp only [h_]);revert h_)|apply And.intro|with_reducible intro h_|trivial|simp only [go_sem,ah];omega)
   refine ⟨_,_,_,?_,Wk.sub ?_ ?_,j+1,by omega,rfl,rfl,rfl⟩
   ·omega
   ·simp only [go_sem,sevalprocAttr]
   ·simp only [go_sem,sevalprocAttr,aY]
  ·obtain rfl:j=g.cs.length:=by omega
   have bj:decide ((g.cs.length:Int)<g.cs.length)=false:=by simp
   have c7:(dU g.cs g.cs.length).take (2*g.cs.length)=dU g.cs g.cs.length:=List.take_of_length_le (by omega);rw [mT] at Ty
   repeat' (first|omega|(first|apply ag|(refine aj.intro (id:=21) [[67,68],[66,6],[66,6],[67,68],[]] [[],[0],[0],[1,2],[]] (by decide+kernel) mixed ?_)|(refine aj.ay (id:=21) (fN) (by decide+kernel) mixed ?_)|skip);simp only [go_sem,sevalprocAttr,bj,dL,↓reduceIte,reduceCtorEq,fN]|apply ae<;>(intro h_;(try simp only [h_]);revert h_)|apply And.intro|with_reducible intro h_|trivial|simp only [go_sem,ah];omega)
   refine ⟨au.jU [1000002] rfl (by simp only [go_sem,sevalprocAttr,dL,c7,zzA]) (by simp only [go_sem,sevalprocAttr,dL,c7,zzA]) (by simp only [go_sem,sevalprocAttr,dL,c7,zzA]) (by simp only [go_sem,sevalprocAttr,dL,c7,zzA]) rfl rfl rfl (au.fn rfl Ty ?_)⟩
   repeat' (first|omega|(first|apply ag|(refine aj.intro (id:=21) [[67,68],[66,6],[66,6],[67,68],[]] [[],[0],[0],[1,2],[]] (by decide+kernel) mixed ?_)|(refine aj.ay (id:=21) (fN) (by decide+kernel) mixed ?_)|skip);simp only [go_sem,sevalprocAttr,bj,dL,↓reduceIte,reduceCtorEq,fN]|apply ae<;>(intro h_;(try simp only [h_]);revert h_)|apply And.intro|with_reducible intro h_|trivial|simp only [go_sem,ah];omega)
   all_goals exact az.refl _
end Go.Proofs.YtmdjdekgakidhaaGreatDoor
