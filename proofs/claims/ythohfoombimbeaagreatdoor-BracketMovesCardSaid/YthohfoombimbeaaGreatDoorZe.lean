/- Layer 8: small functions: outgoing, next, join, place, forward. -/
import Derived.Test.YthohfoombimbeaaGreatDoorBr1
import Derived.Shelf.Spec.SlicesGrow
import Derived.Test.YthohfoombimbeaaGreatDoorZc
namespace Go.Proofs.YthohfoombimbeaaGreatDoor
open Go Go.RowKit
set_option maxRecDepth 99999
set_option maxHeartbeats 8000000
set_option linter.unusedVariables false
set_option linter.unusedSimpArgs false
theorem Eo(s m:List Int)(L x:Int)(hx:0<=x/\x<4*s.length)(hs:s.length<=1000):Fn Tryz.prog 75 [dgA s m L,I x] (.bool (aB s x)):=by
 have e1:x.tmod 4=x % 4:=RE hx.1;have e2:x.tdiv 4=x/4:=u9 hx.1;refine Fn.intro [.tmp 4] Tryz.func75 rfl rfl (by decide) (by simp[Tryz.ntmps75]) ?_;rw[Tryz.ntmps75]
 repeat' (first|omega|(try apply ah);simp only[go_sem,e1,e2]|apply ag<;>(intro h_;(try simp only[h_]);revert h_)|apply zO|with_reducible intro h_|trivial)
 all_goals (simp_all[aB])
theorem Sy(m:List Int)(h:Nat)(h1:h<m.length)(g0:0<=m.getD h 0)(g1:m.getD h 0<=100000)(hl:m.length<=1000):Fn Tryz.prog 58 [roI m,I h] (I (kH (m.getD h 0) (-1))):=by
 have hT:=Iy _ (-1) g0 g1;refine Fn.intro [.tmp 4] Tryz.func58 rfl rfl (by decide) (by simp[Tryz.ntmps58]) ?_;rw[Tryz.ntmps58]
 repeat' (first|omega|(try apply ah);simp only[go_sem,hT]|refine az ?_|refine aA ?_|apply ag<;>(intro h_;(try simp only[h_]);revert h_)|apply zO|with_reducible intro h_|trivial)
theorem M4:∀(H:Hp) (i:Nat) (o o':AObj),hset (hset H i o) i o'=hset H i o'
 |[],_,_,_=>rfl
 |(k,x)::r,i,o,o'=>by
  simp only[hset];by_cases e:k=i
  ·rw[zM e,zM e];simp only[hset];rw[zM e]
  ·rw[zL e,zL e];simp only[hset];rw[zL e,M4 r i o o']
theorem M9:∀{H:Hp} {i:Nat} {o:AObj},hget H i=some o->hset H i o=H
 |(j,p)::H,i,o,h=>by
  simp only[hget]at h;simp only[hset];by_cases e:j=i
  ·rw[zM e]at h⊢;cases h;rfl
  ·rw[zL e]at h⊢;rw[M9 h]
theorem T5{id N:Nat}{M:List Int}{a b:Nat}{fr:Fr}{H:Hp}{K:AV->Fr->Hp->Prop}(hid:hget H id=some (.cells 3 (.ints M)))(hN:M.length=N)(ha:a<N)(hb:b<N)(hl:N<=1000)
  (hK:K (.tup []) fr (hset H id (.cells 3 (.ints (aY M a b))))):jy Tryz.prog 41 [.sl 1 id 0 N,I a,I b] fr H K:=by
 have h1:hget (hset H id (.cells 3 (.ints (M.set a b)))) id=some (.cells 3 (.ints (M.set a b))):=uB hid;have h2:=M4 H id (.cells 3 (.ints (M.set a b)));have h3:aY M a b=(M.set a b).set b a:=by unfold aY;simp
 rw[h3]at hK;refine jy.intro [] Tryz.func41 rfl rfl (by decide) (by simp[Tryz.ntmps41]) ?_;rw[Tryz.ntmps41]
 repeat' (first|omega|(try apply ah);simp only[go_sem,hid,h1,h2,zzF]|apply ag<;>(intro h_;(try simp only[h_]);revert h_)|apply zO|with_reducible intro h_|trivial)
theorem Md(c f d:Int)(hc:0<=c/\c<=1000)(hf:0<=f/\f<4)(hd:0<=d/\d<4):Fn Tryz.prog 49 [I c,I f,I d] (I (4*c+(d-f+4)% 4)):=by
 have e1:(d-f+4).tmod 4=(d-f+4)% 4:=RE (by omega);refine Fn.intro [.tmp 6] Tryz.func49 rfl rfl (by decide) (by simp[Tryz.ntmps49]) ?_;rw[Tryz.ntmps49]
 repeat' (first|omega|(try apply ah);simp only[go_sem,e1]|apply ag<;>(intro h_;(try simp only[h_]);revert h_)|apply zO|with_reducible intro h_|trivial)
def nB(s:List Int)(x:Int):Bool:=decide (x= -1)||(decide (0<=x)&&aB s x)
theorem TZ(s m:List Int)(L x:Int)(hx:x<4*s.length)(hs:s.length<=1000):Fn Tryz.prog 80 [dgA s m L,I x] (.bool (nB s x)):=by
 by_cases h1:x= -1
 ·subst h1;refine Fn.intro [.tmp 4] Tryz.func80 rfl rfl (by decide) (by simp[Tryz.ntmps80]) ?_;rw[Tryz.ntmps80]
  repeat' (first|omega|(try apply ah);simp only[go_sem,nB]|apply ag<;>(intro h_;(try simp only[h_]);revert h_)|apply zO|with_reducible intro h_|trivial)
 by_cases h2:0<=x
 ·have hO:=Eo s m L x ⟨h2,hx⟩ hs;have e:nB s x=aB s x:=by unfold nB;rw[decide_eq_false h1,decide_eq_true h2];simp
  have b1:(x== -1)=false:=by rw[zX];exact h1
  have b2:decide (0<=x)=true:=decide_eq_true h2;rw[e];refine Fn.intro [.tmp 4] Tryz.func80 rfl rfl (by decide) (by simp[Tryz.ntmps80]) ?_;rw[Tryz.ntmps80]
  repeat' (first|omega|(try apply ah);simp only[go_sem,b1,b2]|refine az ?_|refine aA ?_|apply ag<;>(intro h_;(try simp only[h_]);revert h_)|apply zO|with_reducible intro h_|trivial)
 ·have e:nB s x=false:=by unfold nB;rw[decide_eq_false h1,decide_eq_false h2];simp
  have b1:(x== -1)=false:=by rw[zX];exact h1
  have b2:decide (0<=x)=false:=decide_eq_false h2;rw[e];refine Fn.intro [.tmp 4] Tryz.func80 rfl rfl (by decide) (by simp[Tryz.ntmps80]) ?_;rw[Tryz.ntmps80]
  repeat' (first|omega|(try apply ah);simp only[go_sem,b1,b2]|refine az ?_|refine aA ?_|apply ag<;>(intro h_;(try simp only[h_]);revert h_)|apply zO|with_reducible intro h_|trivial)
def CD:fc:=[(3,[[14,15,16,17,18,19,20,21],[13,15,18,19,20,21],[13,14,18,19,20,21],[13,18,19,20,21],[13,18,19,20,21],[13,14,15,16,17,19],[13,14,15,16,17,18],[13,14,15,16,17],[13,14,15,16,17],[]],[[],[0],[0,1],[0],[0],[0,1,2,3,4],[0,1,2,3,4,5],[0,1,2,3,4],[0,1,2,3,4],[]])]
theorem y0a(l:List Int)(v:Int)(hl:l.length<=1000):∃r:Int,-1<=r/\r<=1000/\(0<=r↔v∈l)/\Fn Tryz.prog 96 [roI l,I v] (I r):=by
 obtain⟨r,hr⟩:∃r:Int,r=if v∈l then ((l.findIdx (· ==v):Nat):Int) else-1:=⟨_,rfl⟩;have uO:=List.findIdx_le_length (xs:=l) (p:=(· ==v));refine⟨r,?_,?_,?_,?_⟩
 ·rw[hr];split<;>omega
 ·rw[hr];split<;>omega
 ·rw[hr];split<;>simp_all<;>omega
 refine Fn.av [.tmp 4] Tryz.func96 rfl rfl (by decide) (by simp[Tryz.ntmps96]) ?_;rw[Tryz.ntmps96]
 repeat' (first|omega|(try apply ah);simp only[go_sem]|apply ag<;>(intro h_;(try simp only[h_]);revert h_)|apply zO|with_reducible intro h_|trivial)
 refine dr.intro (fun n fr H=>∃k:Nat,k<=l.length/\n=l.length-k/\(∀i,i<k->l.getD i 0≠v)/\fr=[(8,I k),(7,I l.length),(6,roI l),(0,roI l),(1,I v)]/\H=[]) ?_ ?_
 ·refine⟨_,_,_,?_,0,by omega,rfl,fun i hi=>by omega,rfl,rfl⟩;refine Wk.sub ?_ ?_<;>simp only[go_sem]
 rintro n fr H ⟨k,hk,rfl,cP,rfl,rfl⟩;by_cases cX:k<l.length
 ·have bk:decide ((k:Int)<l.length)=true:=by simp;omega
  by_cases e:l.getD k 0=v
  ·have b1:(v==l.getD k 0)=true:=by rw[beq_iff_eq,e]
   have hm:v∈l:=by rw[<-e,zB,zJ cX];exact List.getElem_mem _
   have gK:l.findIdx (· ==v)=k:=by
    rw[List.findIdx_eq cX];refine⟨?_,fun j hj=>?_⟩
    ·rw[beq_iff_eq];rw[zB,zJ cX]at e;exact e
    ·have:=cP j hj
     rw[zB,zJ (by omega)]at this;rw[zX];exact this
   rw[zM hm,gK]at hr;subst hr
   repeat' (first|omega|(try apply ah);simp only[go_sem,bk,b1]|apply ag<;>(intro h_;(try simp only[h_]);revert h_)|apply zO|with_reducible intro h_|trivial)
   all_goals exact aT.refl _
  ·have b1:(v==l.getD k 0)=false:=by rw[zX];exact fun h=>e h.symm
   repeat' (first|omega|(try apply ah);simp only[go_sem,bk,b1]|apply ag<;>(intro h_;(try simp only[h_]);revert h_)|apply zO|with_reducible intro h_|trivial)
   refine⟨_,_,_,?_,?_,⟨k+1,by omega,rfl,fun i hi=>?_,rfl,rfl⟩⟩
   ·omega
   ·refine Wk.sub ?_ ?_<;>simp only[go_sem]
   ·by_cases h:i=k
    ·rw[h];exact e
    ·exact cP i (by omega)
 ·obtain rfl:k=l.length:=by omega
  have bk:decide ((l.length:Int)<l.length)=false:=by simp
  have hm:¬v∈l:=fun h=>by
   obtain⟨i,hi,e⟩:=List.getElem_of_mem h;exact cP i hi (by rw[zB,zJ hi];exact e)
  rw[zL hm]at hr;subst hr
  repeat' (first|omega|(try apply ah);simp only[go_sem,bk]|apply ag<;>(intro h_;(try simp only[h_]);revert h_)|apply zO|with_reducible intro h_|trivial)
  all_goals exact aT.refl _
theorem YV(l:List Int)(v:Int)(hl:l.length<=1000):Fn Tryz.prog 78 [roI l,I v] (.bool (decide (v∈l))):=by
 obtain⟨r,h1,h2,h3,h4⟩:=y0a l v hl;have b1:decide (0<=r)=decide (v∈l):=by rw[decide_eq_decide];exact h3
 refine Fn.intro [.tmp 4] Tryz.func78 rfl rfl (by decide) (by simp[Tryz.ntmps78]) ?_;rw[Tryz.ntmps78]
 repeat' (first|omega|(try apply ah);simp only[go_sem,b1]|refine az ?_|refine aA ?_|apply ag<;>(intro h_;(try simp only[h_]);revert h_)|apply zO|with_reducible intro h_|trivial)
theorem M8(g:List Int)(h:Int)(hg:g.length<=1000)(h0:0<=h)(h1:h<=100000):Fn Tryz.prog 44 [I h,roI g] (I (bY g h)):=by
 have e4:h.tdiv 4=h/4:=u9 h0;have ct:∀k,(g.take k).countP (fun c=>decide (c<h/4))<=k:=fun k=>Nat.le_trans List.countP_le_length (by rw[List.length_take];omega);refine Fn.av [.tmp 4] Tryz.func44 rfl rfl (by decide) (by simp[Tryz.ntmps44]) ?_;rw[Tryz.ntmps44]
 repeat' (first|omega|(try apply ah);simp only[go_sem]|apply ag<;>(intro h_;(try simp only[h_]);revert h_)|apply zO|with_reducible intro h_|trivial)
 refine dr.intro (fun n fr H=>∃k:Nat,k<=g.length/\n=g.length-k/\fr=[(10,I k),(9,I g.length),(8,roI g),(5,I (4*((g.take k).countP (fun c=>decide (c<h/4)):Nat))),(0,I h)]/\H=[]) ?_ ?_
 ·refine⟨_,_,_,?_,0,by omega,rfl,rfl,rfl⟩;refine Wk.sub ?_ ?_<;>simp only[go_sem]
  all_goals simp
 rintro n fr H ⟨k,hk,rfl,rfl,rfl⟩;have ck:=ct k;by_cases cX:k<g.length
 ·have bk:decide ((k:Int)<g.length)=true:=by simp;omega
  have et:(g.take (k+1)).countP (fun c=>decide (c<h/4))=(g.take k).countP (fun c=>decide (c<h/4))+if g.getD k 0<h/4 then 1 else 0:=by
   rw[List.take_succ_eq_append_getElem cX,List.countP_append];simp[cX]
  by_cases e:g.getD k 0<h/4
  ·have b1:decide (g.getD k 0<h/4)=true:=decide_eq_true e;rw[zM e]at et;generalize (g.take k).countP (fun c=>decide (c<h/4))=u at*
   repeat' (first|omega|(try apply ah);simp only[go_sem,bk,e4,b1]|apply ag<;>(intro h_;(try simp only[h_]);revert h_)|apply zO|with_reducible intro h_|trivial)
   refine⟨_,_,_,?_,?_,⟨k+1,by omega,rfl,rfl,rfl⟩⟩
   ·omega
   ·rw[et];refine Wk.sub ?_ ?_<;>simp only[go_sem]
    all_goals first|omega|(congr 1;omega)|skip
  ·have b1:decide (g.getD k 0<h/4)=false:=decide_eq_false e;rw[zL e]at et;generalize (g.take k).countP (fun c=>decide (c<h/4))=u at*
   repeat' (first|omega|(try apply ah);simp only[go_sem,bk,e4,b1]|apply ag<;>(intro h_;(try simp only[h_]);revert h_)|apply zO|with_reducible intro h_|trivial)
   refine⟨_,_,_,?_,?_,⟨k+1,by omega,rfl,rfl,rfl⟩⟩
   ·omega
   ·rw[et];refine Wk.sub ?_ ?_<;>simp only[go_sem]
 ·obtain rfl:k=g.length:=by omega
  have bk:decide ((g.length:Int)<g.length)=false:=by simp
  have es:bY g h=h-4*(((g.take g.length).countP (fun c=>decide (c<h/4)):Nat):Int):=by rw[List.take_length];rfl
  rw[es];generalize (g.take g.length).countP (fun c=>decide (c<h/4))=u at*
  repeat' (first|omega|(try apply ah);simp only[go_sem,bk]|apply ag<;>(intro h_;(try simp only[h_]);revert h_)|apply zO|with_reducible intro h_|trivial)
  all_goals exact aT.refl _
theorem EI{dl:List Nat}:∀(H:Hp),(∀k∈dl,hnew H<=k)->yai dl H=H
 |[],_=>rfl
 |(i,o)::r,h=>by
  simp only[hnew]at h;have h1:dl.contains i=false:=by
   simp only[List.contains_eq_mem,decide_eq_false_iff_not];intro hi
   have:=h i hi
   omega
  simp only[yai,h1];rw[zL (by simp),EI r fun k hk=>by have:=h k hk;omega]
theorem Tq(H:Hp):yai [hnew H] H=H:=EI H (by simp)
theorem Yh(H:Hp):yai [hnew H,hnew H+1,hnew H+2,hnew H+3,hnew H+4] H=H:=EI H (by simp)
theorem Db{id N:Nat}{M:List Int}{a b:Nat}{fr:Fr}{H:Hp}{K:AV->Fr->Hp->Prop}(hid:hget H id=some (.cells 3 (.ints M)))(hN:M.length=N)(ha:a<N)(hb:b<N)(hl:N<=1000)(hs:H.all (fun q=>sO H q.2)=true)(pa:0<=M.getD a 0/\M.getD a 0<N)(pb:0<=M.getD b 0/\M.getD b 0<N)
  (hK:K (I (if M.getD a 0=b then 1 else 0)) fr (hset H id (.cells 3 (.ints (bB M a b))))):jy Tryz.prog 43 [.sl 1 id 0 N,I a,I b] fr H K:=by
 obtain⟨p,hp⟩:∃p:Nat,M.getD a 0=p:=⟨(M.getD a 0).toNat,by omega⟩;obtain⟨q,hq⟩:∃q:Nat,M.getD b 0=q:=⟨(M.getD b 0).toNat,by omega⟩;rw[hp]at pa;rw[hq]at pb;by_cases e:M.getD a 0=b
 ·have b1:(M.getD a 0==(b:Int))=true:=by rw[beq_iff_eq,e]
  have e2:bB M a b=M:=by unfold bB;rw[zM e]
  rw[zM e,e2,M9 hid]at hK;refine jy.intro [.tmp 6] Tryz.func43 rfl rfl (by decide) (by simp[Tryz.ntmps43]) ?_;rw[Tryz.ntmps43]
  repeat' (first|omega|(first|apply ah|refine aw CD ?_|refine cY CD ?_|skip);simp only[go_sem,hid,b1]|apply ag<;>(intro h_;(try simp only[h_]);revert h_)|apply zO|with_reducible intro h_|trivial)
  all_goals exact hK
 ·have b1:(M.getD a 0==(b:Int))=false:=by rw[zX];exact e
  have e2:bB M a b=aY M p q:=by unfold bB;rw[zL e,hp,hq]
  rw[zL e,e2]at hK;refine jy.intro [.tmp 6] Tryz.func43 rfl rfl (by decide) (by simp[Tryz.ntmps43]) ?_;rw[Tryz.ntmps43]
  repeat' (first|omega|(first|apply ah|refine cY CD ?_|refine aw CD ?_|skip);simp only[go_sem,hid,b1,hp,hq,Tq,Yh,hs]|apply ag<;>(intro h_;(try simp only[h_]);revert h_)|apply zO|with_reducible intro h_|trivial)
  all_goals refine⟨aL.inline (T5 hid hN (by omega) (by omega) hl ?_)⟩
  all_goals repeat' (first|omega|(first|apply ah|refine aw CD ?_|refine cY CD ?_|skip);simp only[go_sem,hid]|apply ag<;>(intro h_;(try simp only[h_]);revert h_)|apply zO|with_reducible intro h_|trivial)
  all_goals exact hK
end Go.Proofs.YthohfoombimbeaaGreatDoor
set_option linter.unusedSimpArgs false
set_option linter.unusedVariables false
namespace Go.Proofs.YthohfoombimbeaaGreatDoor
open Go Go.RowKit
set_option maxRecDepth 99999
set_option maxHeartbeats 8000000
def Rw:Go.Shelf.Ren:=⟨fun|4=>95|n=>n,fun|25=>3|n=>n,fun|n=>n⟩
theorem y3k:Lays8.n4 Tryz.prog Rw:={
 mixed:=by kernel_rfl
 f4:=⟨"slices.Grow[[]int,int]",by decide,Tryz.func95.trans (congrArg some (by kernel_rfl))⟩
 t0:=Tryz.underlying0
 a0:=Tryz.isAgg0
 z0:=Tryz.sizeOf0
 v0:=Tryz.zeroValue0
 t3:=Tryz.underlying3
 a3:=Tryz.isAgg3
 z3:=Tryz.sizeOf3
 v3:=Tryz.zeroValue3
 t4:=Tryz.underlying4
 a4:=Tryz.isAgg4
 z4:=Tryz.sizeOf4
 v4:=Tryz.zeroValue4
 t9:=Tryz.underlying9
 a9:=Tryz.isAgg9
 z9:=Tryz.sizeOf9
 v9:=Tryz.zeroValue9
 t20:=Tryz.underlying20
 a20:=Tryz.isAgg20
 z20:=Tryz.sizeOf20
 v20:=Tryz.zeroValue20
 t22:=Tryz.underlying22
 a22:=Tryz.isAgg22
 z22:=Tryz.sizeOf22
 v22:=Tryz.zeroValue22}
theorem y0b:∃i:TypeInfo,Tryz.prog.info? 3=some i/\i.zero=some (.int .i64 0)/\i.size=1/\i.bytes=8:=by
 have h:(Tryz.prog.info? 3).map (fun i=>(i.zero,i.size,i.bytes))=some (some (.int .i64 0),1,8):=by kernel_rfl
 obtain⟨i,h1,h2⟩:=zzB.1 h;simp only[Prod.mk.injEq]at h2;exact⟨i,h1,h2.1,h2.2.1,h2.2.2⟩
theorem y3l(n:Nat)(h:0<n)(hn:n<=1000):nD Tryz.prog 95 [.nils,I n] (.sl 1 0 0 0) [(0,.cells 3 (.ints []))]:=by
 obtain⟨i0,i1,i2,i3,i4⟩:=y0b;refine⟨⟨_,Tryz.func95,rfl,by decide⟩,fun w Mx vs mT xw hv=>?_⟩
 match vs,xw,hv with
 |[u0,u1],_,hv=>
  have e0:=(hv 0 u0 _ rfl rfl).cd;have e1:=(hv 1 u1 _ rfl rfl).aq;subst e0 e1
  have qD:aO w.heap.size ⟨w,fun _=>undef⟩ Mx 0 w ρ0 [] [] {tmps:= #[],defers:=[]}:=
   ⟨Below.refl _ _,zA _,mT.2,(fun id o h=>by cases h),(fun id o h=>by cases h),(fun id o _ _ h=>by cases h),fun t=> .any _,⟨rfl,fun _ hb=>mT.1.later hb⟩,by simp,by omega⟩
  refine(Any8.slices_Grow_grow y3k i0 _ i1 i2 (by omega) none 0 0 n [] w (zA _) (by omega) (by rw[i4];omega) (by omega) (by simp) (fun _=>rfl) (fun a ha=>by cases ha)).mono ?_;rintro e w' ⟨he,hw⟩;obtain⟨arr,G,hG,rfl,rfl⟩:∃(arr:Array Value) (G:Nat),G<=arr.size/\e= .returned (.slice (some ⟨w.heap.size,0,none⟩) 0 G)/\w'=w.drew.alloc (.cells arr 3):=by
   refine⟨_,_,?_,he,hw⟩;have hg:=grownCap_ge w (0+n) 0 (Rw.t 25);simp only[Array.size_append,size_zeroCells,Value.cells,List.size_toArray,zzC,zH];omega
  refine⟨_,e8 ρ0 0 ⟨w.heap.size,0,none⟩,rfl,(aO.draw qD).b9 0 rfl _ 3 (.ints []) (Nat.zero_le _) (fun j hj=>zzA hj (by simp[Cs.len])),?_⟩;refine .sl 1 0 0 0 G ⟨_,rfl⟩ (Nat.zero_le _) arr 3 _ (fun _=>?_) ?_ ?_
  ·simp[e8,Addr.add]
  ·rw[j9];exact xU
  ·rw[j9];simpa using hG
def jS(a b:List Int)(k:Nat):Nat:=if k=0 then 0 else if k=1 then a.length else a.length+b.length
def kh(a b:List Int)(k:Nat):List Int:=if k=0 then [] else if k=1 then a else a++b
abbrev catA(a b:List Int):AV:= .ro 1 2 (.lst [roI a,roI b])
attribute [go_sem] catA
theorem TY(a b:List Int)(h:0<a.length+b.length)(ha:a.length<=300)(hb:b.length<=300):
  nD Tryz.prog 76 [catA a b] (.sl 1 0 0 (a.length+b.length)) [(0,.cells 3 (.ints (a++b)))]:=by
 have hg:=y3l (a.length+b.length) h (by omega);have hgi:AV.int .i64 ((a.length:Int)+b.length)=AV.int .i64 ((a.length+b.length:Nat):Int):=by simp
 refine nD.intro [.tmp 2] Tryz.func76 rfl rfl (by decide) (by simp[Tryz.ntmps76]) ?_;rw[Tryz.ntmps76]
 repeat' (first|omega|(try apply ah);simp only[go_sem]|apply ag<;>(intro h_;(try simp only[h_]);revert h_)|apply zO|with_reducible intro h_|trivial)
 refine dr.intro (fun n fr H=>∃k:Nat,k<=2/\n=2-k/\fr=[(11,I k),(10,I 2),(9,catA a b),(3,I (jS a b k)),(0,catA a b)]/\H=[]) ?_ ?_
 ·refine⟨_,_,_,?_,0,by omega,rfl,rfl,rfl⟩;refine Wk.sub ?_ ?_<;>simp only[go_sem]
  all_goals simp_all[jS]
 rintro n fr H ⟨k,hk,rfl,rfl,rfl⟩
 match k,hk with
 |0,_=>
  have q1:decide ((jS a b 0:Int)+a.length<0)=false:=by simp[jS]
  have q0:(jS a b 0:Int)=0:=by simp[jS]
  have q2:(jS a b 1:Int)=a.length:=by simp[jS]
  repeat' (first|omega|(try apply ah);simp only[go_sem,q1,q0]|apply ag<;>(intro h_;(try simp only[h_]);revert h_)|apply zO|with_reducible intro h_|trivial)
  refine⟨_,_,_,?_,?_,⟨1,by omega,rfl,rfl,rfl⟩⟩
  ·omega
  ·refine Wk.sub ?_ ?_<;>(simp only[go_sem,q2])
   all_goals simp_all
 |1,_=>
  have q0:(jS a b 1:Int)=a.length:=by simp[jS]
  have q1:decide ((a.length:Int)+b.length<0)=false:=by simp;omega
  have q2:(jS a b 2:Int)=a.length+b.length:=by simp[jS]
  repeat' (first|omega|(try apply ah);simp only[go_sem,q1,q0]|apply ag<;>(intro h_;(try simp only[h_]);revert h_)|apply zO|with_reducible intro h_|trivial)
  refine⟨_,_,_,?_,?_,⟨2,by omega,rfl,rfl,rfl⟩⟩
  ·omega
  ·refine Wk.sub ?_ ?_<;>(simp only[go_sem,q2])
   all_goals simp_all
 |2,_=>
  have q2:(jS a b 2:Int)=a.length+b.length:=by simp[jS]
  repeat' (first|omega|(try apply ah);simp only[go_sem,q2]|apply ag<;>(intro h_;(try simp only[h_]);revert h_)|apply zO|with_reducible intro h_|trivial)
  rw[hgi];refine⟨aL.DV rfl hg ?_⟩
  repeat' (first|omega|(try apply ah);simp only[go_sem]|apply ag<;>(intro h_;(try simp only[h_]);revert h_)|apply zO|with_reducible intro h_|trivial)
  refine dr.intro (fun n fr H=>∃k:Nat,k<=2/\n=2-k/\fr=[(27,I k),(26,I 2),(25,catA a b),(6,.sl 1 0 0 (kh a b k).length)]/\H=[(0,.cells 3 (.ints (kh a b k)))]) ?_ ?_
  ·refine⟨_,_,_,?_,0,by omega,rfl,rfl,rfl⟩;refine Wk.sub ?_ ?_<;>simp only[go_sem]
   all_goals simp_all[kh]
  rintro n fr H ⟨k,hk,rfl,rfl,rfl⟩
  match k,hk with
  |0,_=>
   have q0:kh a b 0=[]:=by simp[kh]
   have q1:kh a b 1=a:=by simp[kh]
   rw[q0]
   repeat' (first|omega|(try apply ah);simp only[go_sem]|apply ag<;>(intro h_;(try simp only[h_]);revert h_)|apply zO|with_reducible intro h_|trivial)
   refine⟨_,_,_,?_,?_,⟨1,by omega,rfl,rfl,rfl⟩⟩
   ·omega
   ·refine Wk.sub ?_ ?_<;>(simp only[go_sem,q1])
  |1,_=>
   have q0:kh a b 1=a:=by simp[kh]
   have q1:kh a b 2=a++b:=by simp[kh]
   rw[q0]
   repeat' (first|omega|(try apply ah);simp only[go_sem]|apply ag<;>(intro h_;(try simp only[h_]);revert h_)|apply zO|with_reducible intro h_|trivial)
   refine⟨_,_,_,?_,?_,⟨2,by omega,rfl,rfl,rfl⟩⟩
   ·omega
   ·refine Wk.sub ?_ ?_<;>(simp only[go_sem,q1,zG])
    all_goals rfl
  |2,_=>
   have q1:kh a b 2=a++b:=by simp[kh]
   rw[q1,zG]
   repeat' (first|omega|(try apply ah);simp only[go_sem]|apply ag<;>(intro h_;(try simp only[h_]);revert h_)|apply zO|with_reducible intro h_|trivial)
abbrev noR:AV:= .ro 1 0 (.lst [])
attribute [go_sem] noR
def Ld:fc:=[(1,[[7,10,11,12,13,14,15,16,18,19],[7,10,11,12,13,14,15,16,18,19],[5,6,10,11,12,13,14,15,16,18,19],[10,11,12,13,14,15,16,18,19],[10,11,12,13,14,15,16,18,19],[5,6,7,8,9,12,13,14,15,18,19],[5,6,7,8,9,12,13,14,15,18,19],[5,6,7,8,9,10,11,18,19],[5,6,7,8,9,10,11,18,19],[5,6,7,8,9,10,11,18,19],[5,6,7,8,9,10,11,18,19],[5,6,7,8,9,18,19],[18,19],[5,6,7,8,9,10,11,12,13,14,15,16,17],[5,6,7,8,9,10,11,12,13,14,15,16,17],[],[]],[[],[],[0,1],[],[],[0,1,2,3,4],[0,1,2,3,4],[0,1,2,3,4,5,6],[0,1,2,3,4,5,6],[0,1,2,3,4,5,6],[0,1,2,3,4,5,6],[0,1,2,3,4],[],[0,1,2,3,4,5,6,7,8,9,10,11,12],[0,1,2,3,4,5,6,7,8,9,10,11,12],[],[]])]
theorem Tp(s m:List Int)(L:Int)(sg:List Int)(hk:0<sg.length)(hs:s.length+sg.length<=70)(hm:m.length=4*s.length):
  nD Tryz.prog 40 [dgA s m L,roI sg] (.agg [.sl 1 6 0 (s.length+sg.length),.sl 1 14 0 (m.length+4*sg.length),I L]) [(14,.cells 3 (.ints (m++List.replicate (4*sg.length) 0))),(6,.cells 3 (.ints (s++sg)))]:=by
 have c1:=TY s sg (by omega) (by omega) (by omega);have c2:=TY m (List.replicate (4*sg.length) 0) (by simp;omega) (by omega) (by simp;omega);rw[List.length_replicate]at c2;have e1:(4*(sg.length:Int)).toNat=4*sg.length:=by omega
 refine nD.intro [.cell 4 24] Tryz.func40 rfl rfl (by decide) (by simp[Tryz.ntmps40]) ?_;rw[Tryz.ntmps40]
 repeat' (first|omega|(first|apply ah|refine aw Ld ?_|skip);simp only[go_sem,e1]|apply ag<;>(intro h_;(try simp only[h_]);revert h_)|apply zO|with_reducible intro h_|trivial)
 refine⟨dd.own (h:=c1) (by simp only[go_sem]) (by simp only[go_sem];try rfl) ?_⟩
 repeat' (first|omega|(first|apply ah|refine aw Ld ?_|skip);simp only[go_sem,e1]|apply ag<;>(intro h_;(try simp only[h_]);revert h_)|apply zO|with_reducible intro h_|trivial)
 have e2:(List.replicate (4*sg.length) (0:Int)).take (4*sg.length)=List.replicate (4*sg.length) 0:=zU (by simp);refine⟨dd.own (h:=c2) (by simp only[go_sem,e1,zA]) (by simp only[go_sem,e1,e2];try rfl) ?_⟩
 repeat' (first|omega|(first|apply ah|refine aw Ld ?_|skip);simp only[go_sem,e1]|apply ag<;>(intro h_;(try simp only[h_]);revert h_)|apply zO|with_reducible intro h_|trivial)
def H3:fc:=[(17,[[71,72,73,74,75,76,77],[71,72,73,74,75,76,77],[69,70,72,73,74,75,76,77],[69,70,71,74,75],[69,70,71,74,75],[69,70,71,72,73],[69,70,71,72,73],[69,70,71],[69,70,71],[]],[[],[],[0,1],[0,1,2],[0,1,2],[0,1,2,3,4],[0,1,2,3,4],[0,1,2],[0,1,2],[]])]
abbrev ei(k x y g:Int)(ov:Bool):AV:= .agg [I k,I x,I y,I g,.bool ov]
abbrev qb:AV:= .agg [.nils,.nils,I 0]
def y7(r inv:AV)(e:Int):Prop:=(e≠0->r=qb)/\ ∃k x y g b,inv=ei k x y g b
theorem y7.err{k x y g e:Int}{b:Bool}:y7 qb (ei k x y g b) e:=⟨fun _=>rfl,k,x,y,g,b,rfl⟩
theorem y7.ok{r:AV}{k x y g:Int}{b:Bool}:y7 r (ei k x y g b) 0:=⟨fun h=>zzA rfl h,k,x,y,g,b,rfl⟩
theorem oc{id N:Nat}{M R:List Int}{a b:Nat}(hR:aY M (a:Int) (b:Int)=R){x y:Int}{fr:Fr}{H:Hp}{K:AV->Fr->Hp->Prop}(hx:x=(a:Int))(hy:y=(b:Int))(hid:hget H id=some (.cells 3 (.ints M)))(hN:M.length=N)(ha:a<N)(hb:b<N)(hl:N<=1000)
  (hK:K (.tup []) fr (hset H id (.cells 3 (.ints R)))):jy Tryz.prog 41 [.sl 1 id 0 N,I x,I y] fr H K:=by
 subst hx hy hR;exact T5 hid hN ha hb hl hK
theorem YC(s m:List Int)(L k x y g:Int)(ov:Bool)(hs:s.length<=64)(hx:x<4*s.length):∃e:Int,Fn Tryz.prog 39 [dgA s m L,ei k x y g ov] (I e)/\(e=0->(x<0/\L≠0\/0<=x/\aB s x=true)/\s.length+1<=64):=by
 by_cases h0:0<=x
 ·have hO:=Eo s m L x ⟨h0,hx⟩ (by omega);have b1:decide (0<=x)=true:=decide_eq_true h0;have b2:decide (x<0)=false:=decide_eq_false (by omega);cases ho:aB s x with
  |false=>
   rw[ho]at hO;refine⟨6,?_,fun h=>by omega⟩;refine Fn.intro [.tmp 4] Tryz.func39 rfl rfl (by decide) (by simp[Tryz.ntmps39]) ?_;rw[Tryz.ntmps39]
   repeat' (first|omega|(try apply ah);simp only[go_sem,b1,b2]|refine az ?_|refine aA ?_|apply ag<;>(intro h_;(try simp only[h_]);revert h_)|apply zO|with_reducible intro h_|trivial)
  |true=>
   rw[ho]at hO;by_cases fM:s.length+1<=64
   ·have b3:decide ((64:Int)<s.length+1)=false:=decide_eq_false (by omega);refine⟨0,?_,fun h=>⟨.inr ⟨h0,rfl⟩,fM⟩⟩;refine Fn.intro [.tmp 4] Tryz.func39 rfl rfl (by decide) (by simp[Tryz.ntmps39]) ?_;rw[Tryz.ntmps39]
    repeat' (first|omega|(try apply ah);simp only[go_sem,b1,b2,b3]|refine az ?_|refine aA ?_|apply ag<;>(intro h_;(try simp only[h_]);revert h_)|apply zO|with_reducible intro h_|trivial)
   ·have b3:decide ((64:Int)<s.length+1)=true:=decide_eq_true (by omega);refine⟨5,?_,fun h=>by omega⟩;refine Fn.intro [.tmp 4] Tryz.func39 rfl rfl (by decide) (by simp[Tryz.ntmps39]) ?_;rw[Tryz.ntmps39]
    repeat' (first|omega|(try apply ah);simp only[go_sem,b1,b2,b3]|refine az ?_|refine aA ?_|apply ag<;>(intro h_;(try simp only[h_]);revert h_)|apply zO|with_reducible intro h_|trivial)
 ·have b1:decide (0<=x)=false:=decide_eq_false h0;have b2:decide (x<0)=true:=decide_eq_true (by omega);by_cases hL:L=0
  ·have b3:(L==0)=true:=by rw[beq_iff_eq];exact hL
   refine⟨6,?_,fun h=>by omega⟩;refine Fn.intro [.tmp 4] Tryz.func39 rfl rfl (by decide) (by simp[Tryz.ntmps39]) ?_;rw[Tryz.ntmps39]
   repeat' (first|omega|(try apply ah);simp only[go_sem,b1,b2,b3]|refine az ?_|refine aA ?_|apply ag<;>(intro h_;(try simp only[h_]);revert h_)|apply zO|with_reducible intro h_|trivial)
  ·have b3:(L==0)=false:=by rw[zX];exact hL
   by_cases fM:s.length+1<=64
   ·have b4:decide ((64:Int)<s.length+1)=false:=decide_eq_false (by omega);refine⟨0,?_,fun h=>⟨.inl ⟨by omega,hL⟩,fM⟩⟩;refine Fn.intro [.tmp 4] Tryz.func39 rfl rfl (by decide) (by simp[Tryz.ntmps39]) ?_;rw[Tryz.ntmps39]
    repeat' (first|omega|(try apply ah);simp only[go_sem,b1,b2,b3,b4]|refine az ?_|refine aA ?_|apply ag<;>(intro h_;(try simp only[h_]);revert h_)|apply zO|with_reducible intro h_|trivial)
   ·have b4:decide ((64:Int)<s.length+1)=true:=decide_eq_true (by omega);refine⟨5,?_,fun h=>by omega⟩;refine Fn.intro [.tmp 4] Tryz.func39 rfl rfl (by decide) (by simp[Tryz.ntmps39]) ?_;rw[Tryz.ntmps39]
    repeat' (first|omega|(try apply ah);simp only[go_sem,b1,b2,b3,b4]|refine az ?_|refine aA ?_|apply ag<;>(intro h_;(try simp only[h_]);revert h_)|apply zO|with_reducible intro h_|trivial)
theorem y7c(s m:List Int)(L k x y g:Int)(ov:Bool)(hv:bG s m L=true)(jb: -1<=x)(hx:x<4*s.length)(hg:g=1\/g= -1):
  ∃(r inv:AV) (e:Int),Fn Tryz.prog 15 [dgA s m L,ei k x y g ov] (.tup [r,inv,I e])/\(e=0->∃s' m' L',r=dgA s' m' L'/\Hs.gN s m L 1 g s' m' L')/\y7 r inv e:=by
 have v1:=gP hv;have fM:=v1.s64;have dw:=v1.len;have wc:=v1.l0;have mI:=v1.mj;obtain⟨e,hC,he⟩:=YC s m L k x y g ov (by omega) hx;by_cases e0:e=0
 ·subst e0;obtain⟨h1,h2⟩:=he rfl;have hG:=Tp s m L [g] (by simp) (by simp;omega) dw;have e4:m++List.replicate (4*[g].length) (0:Int)=m++[0,0,0,0]:=rfl;rw[e4]at hG;have e5:s.length+[g].length=s.length+1:=rfl;have e6:m.length+4*[g].length=m.length+4:=rfl;rw[e5,e6]at hG;have hM:(m++[(0:Int),0,0,0]).length=m.length+4:=by simp
  obtain⟨pos,rfl⟩:∃pos:Bool,g=Hs.rR pos:=by
   rcases hg with rfl|rfl
   ·exact⟨true,rfl⟩
   ·exact⟨false,rfl⟩
  rcases h1 with ⟨V9,Xf⟩|⟨ry,ho⟩
  ·have b1:decide (x<0)=true:=decide_eq_true V9;refine⟨dgA (s++[Hs.rR pos]) (Hs.Cg m s.length pos ov) (L-1),ei 2 s.length 0 0 false,0,?_,fun _=>⟨_,_,_,rfl,.cl pos ov (by omega) h2⟩,by first|exact .err|exact .ok⟩;obtain⟨o0,xx⟩:∃o0,o0=rV pos ov:=⟨_,rfl⟩;obtain⟨i0,qQ⟩:∃i0,i0=rX pos ov:=⟨_,rfl⟩;obtain⟨o1,nt⟩:∃o1,o1=rU pos ov:=⟨_,rfl⟩;obtain⟨i1,DJ⟩:∃i1,i1=rW pos ov:=⟨_,rfl⟩
   obtain⟨M1,q5⟩:∃M1,aY (m++[0,0,0,0]) ((4*s.length+o0:Nat):Int) ((4*s.length+i1:Nat):Int)=M1:=⟨_,rfl⟩;have hf:aY M1 ((4*s.length+o1:Nat):Int) ((4*s.length+i0:Nat):Int)=Hs.Cg m s.length pos ov:=by rw[<-q5,xx,qQ,nt,DJ];rfl
   have ph:M1.length=m.length+4:=by rw[<-q5,Hs.ba,hM]
   have PU:(Hs.Cg m s.length pos ov).length=m.length+4:=by rw[<-hf,Hs.ba,ph]
   have qT:(Hs.Cg m s.length pos ov).take (m.length+4)=Hs.Cg m s.length pos ov:=zU (by omega);have ij:(s++[Hs.rR pos]).take (s.length+1)=s++[Hs.rR pos]:=zU (by simp);generalize Hs.Cg m s.length pos ov=F at*;clear e4 e5 e6;cases pos<;>cases ov
   all_goals simp only[Hs.rR,rV,rW,rU,rX,if_true,Bool.false_eq_true,if_false]at*
   all_goals
    refine Fn.av [.cell 4 24,.cell 5 26,.tmp 6] Tryz.func15 rfl rfl (by decide) (by simp[Tryz.ntmps15]) ?_;rw[Tryz.ntmps15]
    repeat' (first|omega|(try apply ah);simp only[go_sem,b1]|refine az ?_|refine aA ?_|apply ag<;>(intro h_;(try simp only[h_]);revert h_)|apply zO|with_reducible intro h_|trivial)
    refine⟨aL.wO [4] rfl (by simp only[go_sem]) (by simp only[go_sem]) (by simp only[go_sem]) (by simp only[go_sem]) rfl rfl rfl (aL.DV rfl hG ?_)⟩
    repeat' (first|omega|(try apply ah);simp only[go_sem,b1]|refine az ?_|refine aA ?_|apply ag<;>(intro h_;(try simp only[h_]);revert h_)|apply zO|with_reducible intro h_|trivial)
    refine⟨aL.inline (oc q5 (by omega) (by omega) rfl hM (by omega) (by omega) (by omega) ?_)⟩
    repeat' (first|omega|(try apply ah);simp only[go_sem,b1]|refine az ?_|refine aA ?_|apply ag<;>(intro h_;(try simp only[h_]);revert h_)|apply zO|with_reducible intro h_|trivial)
    refine⟨aL.inline (oc hf (by omega) (by omega) rfl ph (by omega) (by omega) (by omega) ?_)⟩
    repeat' (first|omega|(try apply ah);simp only[go_sem,b1]|refine az ?_|refine aA ?_|apply ag<;>(intro h_;(try simp only[h_]);revert h_)|apply zO|with_reducible intro h_|trivial)
    all_goals (rw[ij,qT,<-PU];exact aT.refl _)
  ·have b1:decide (x<0)=false:=decide_eq_false (by omega);obtain⟨xn,rfl⟩:∃xn:Nat,x=xn:=⟨x.toNat,by omega⟩;refine⟨dgA (s++[Hs.rR pos]) (Hs.Cf m s.length pos ov xn) L,ei 2 s.length 0 0 false,0,?_,fun _=>⟨_,_,_,rfl,.cx pos ov xn (by omega) ho h2⟩,by first|exact .err|exact .ok⟩;have hp:=v1.prd.ok.2 xn (by omega);obtain⟨pn,fU⟩:∃pn:Nat,m.getD xn 0=pn:=⟨(m.getD xn 0).toNat,by omega⟩
   rw[fU]at hp;have e1:(xn:Int).toNat=xn:=by omega
   obtain⟨o0,xx⟩:∃o0,o0=rV pos ov:=⟨_,rfl⟩;obtain⟨i0,qQ⟩:∃i0,i0=rX pos ov:=⟨_,rfl⟩;obtain⟨o1,nt⟩:∃o1,o1=rU pos ov:=⟨_,rfl⟩;obtain⟨i1,DJ⟩:∃i1,i1=rW pos ov:=⟨_,rfl⟩;obtain⟨M1,q5⟩:∃M1,aY (m++[0,0,0,0]) ((4*s.length+o0:Nat):Int) ((4*s.length+i1:Nat):Int)=M1:=⟨_,rfl⟩;obtain⟨M2,ph⟩:∃M2,aY M1 ((4*s.length+o1:Nat):Int) (pn:Int)=M2:=⟨_,rfl⟩
   have hf:aY M2 (xn:Int) ((4*s.length+i0:Nat):Int)=Hs.Cf m s.length pos ov xn:=by rw[<-ph,<-q5,xx,qQ,nt,DJ,<-fU];rfl
   have l1:M1.length=m.length+4:=by rw[<-q5,Hs.ba,hM]
   have l2:M2.length=m.length+4:=by rw[<-ph,Hs.ba,l1]
   have PU:(Hs.Cf m s.length pos ov xn).length=m.length+4:=by rw[<-hf,Hs.ba,l2]
   have qT:(Hs.Cf m s.length pos ov xn).take (m.length+4)=Hs.Cf m s.length pos ov xn:=zU (by omega);have ij:(s++[Hs.rR pos]).take (s.length+1)=s++[Hs.rR pos]:=zU (by simp);generalize Hs.Cf m s.length pos ov xn=F at*;clear e4 e5 e6;cases pos<;>cases ov
   all_goals simp only[Hs.rR,rV,rW,rU,rX,if_true,Bool.false_eq_true,if_false]at*
   all_goals
    refine Fn.av [.cell 4 24,.cell 5 26,.tmp 6] Tryz.func15 rfl rfl (by decide) (by simp[Tryz.ntmps15]) ?_;rw[Tryz.ntmps15]
    repeat' (first|omega|(try apply ah);simp only[go_sem,b1]|refine az ?_|refine aA ?_|apply ag<;>(intro h_;(try simp only[h_]);revert h_)|apply zO|with_reducible intro h_|trivial)
    refine⟨aL.wO [4] rfl (by simp only[go_sem]) (by simp only[go_sem]) (by simp only[go_sem]) (by simp only[go_sem]) rfl rfl rfl (aL.DV rfl hG ?_)⟩
    repeat' (first|omega|(try apply ah);simp only[go_sem,b1]|refine az ?_|refine aA ?_|apply ag<;>(intro h_;(try simp only[h_]);revert h_)|apply zO|with_reducible intro h_|trivial)
    refine⟨aL.inline (oc q5 (by omega) (by omega) rfl hM (by omega) (by omega) (by omega) ?_)⟩
    repeat' (first|omega|(first|apply ah|refine cY H3 ?_|refine aw H3 ?_|skip);simp only[go_sem,b1,fU,e1]|refine az ?_|refine aA ?_|apply ag<;>(intro h_;(try simp only[h_]);revert h_)|apply zO|with_reducible intro h_|trivial)
    refine⟨aL.inline (oc ph (by omega) rfl rfl l1 (by omega) (by omega) (by omega) ?_)⟩
    repeat' (first|omega|(first|apply ah|refine cY H3 ?_|refine aw H3 ?_|skip);simp only[go_sem,b1,fU,e1]|refine az ?_|refine aA ?_|apply ag<;>(intro h_;(try simp only[h_]);revert h_)|apply zO|with_reducible intro h_|trivial)
    refine⟨aL.inline (oc hf rfl (by omega) rfl l2 (by omega) (by omega) (by omega) ?_)⟩
    repeat' (first|omega|(try apply ah);simp only[go_sem,b1]|refine az ?_|refine aA ?_|apply ag<;>(intro h_;(try simp only[h_]);revert h_)|apply zO|with_reducible intro h_|trivial)
    all_goals (rw[ij,qT,<-PU];exact aT.refl _)
 ·have b0:(e !=0)=true:=by simpa [bne] using e0
  refine⟨qb,ei 0 0 0 0 false,e,?_,fun h=>zzA h e0,by first|exact .err|exact .ok⟩;refine Fn.av [.cell 4 24,.cell 5 26,.tmp 6] Tryz.func15 rfl rfl (by decide) (by simp[Tryz.ntmps15]) ?_;rw[Tryz.ntmps15]
  repeat' (first|omega|(try apply ah);simp only[go_sem,b0]|refine az ?_|refine aA ?_|apply ag<;>(intro h_;(try simp only[h_]);revert h_)|apply zO|with_reducible intro h_|trivial)
  all_goals exact aT.refl _
end Go.Proofs.YthohfoombimbeaaGreatDoor
namespace Go.Proofs.YthohfoombimbeaaGreatDoor
open Go Go.Joins Go.ChangeShapes Go.WideShapes Go.ChangeAt Go.WideMaps Go.WideElems Go.RowKit
set_option maxRecDepth 99999
theorem Qo{α:Type}{cs:Array α}(h:cs.size=5):∃c0 c1 c2 c3 c4,cs= #[c0,c1,c2,c3,c4]:=by
 obtain⟨l⟩:=cs
 match l,h with
 |[c0,c1,c2,c3,c4],_=>exact⟨c0,c1,c2,c3,c4,rfl⟩
section
variable{H:Type}{enc:TypeId×Value->H}
theorem Fe{w:World}{t:TypeId}{f0 f1 f2 f3 f4:Field}{fuel:Nat}{cs:List Value}{x:DataW H×List MemPlace}(ht:Tryz.prog.underlying t=some (.struct #[f0,f1,f2,f3,f4]))(h:DataW.trod enc Tryz.prog w 0 (fun _=>true) true fuel t cs=some x):
  ∃y0 y1 y2 y3 y4 n,DataW.trod enc Tryz.prog w 0 (fun _=>true) true n f0.type ((cs.drop f0.offset).take (Tryz.prog.cellsOf f0.type))=some y0/\
   DataW.trod enc Tryz.prog w 0 (fun _=>true) true n f1.type ((cs.drop f1.offset).take (Tryz.prog.cellsOf f1.type))=some y1/\DataW.trod enc Tryz.prog w 0 (fun _=>true) true n f2.type ((cs.drop f2.offset).take (Tryz.prog.cellsOf f2.type))=some y2/\
   DataW.trod enc Tryz.prog w 0 (fun _=>true) true n f3.type ((cs.drop f3.offset).take (Tryz.prog.cellsOf f3.type))=some y3/\DataW.trod enc Tryz.prog w 0 (fun _=>true) true n f4.type ((cs.drop f4.offset).take (Tryz.prog.cellsOf f4.type))=some y4:=by
 obtain⟨xs,n,_,rfl,hl,hlen,hf⟩:=DataW.trod_struct ht h
 match xs,hlen with
 |[y0,y1,y2,y3,y4],_=>exact⟨y0,y1,y2,y3,y4,n,by simpa using hf 0 f0 rfl,by simpa using hf 1 f1 rfl,by simpa using hf 2 f2 rfl,by simpa using hf 3 f3 rfl,by simpa using hf 4 f4 rfl⟩
theorem mv_VR{w:World}{r:Reach}{b0:Nat}{v:Value}{d:DataW H}{p:List MemPlace}(hv:Value.okWide Tryz.prog w r b0 26 v)(h:DataW.Trod enc Tryz.prog w 0 (fun _=>true) true 26 v d p):
  ∃(k x y g:Int) (b:Bool),VR w (fun _=>False) ρ0 (fun _=>False) v (ei k x y g b):=by
 obtain⟨cs,rfl,fJ⟩:=okWide_struct Tryz.underlying26 hv;obtain⟨c0,c1,c2,c3,c4,rfl⟩:=Qo (fJ.trans (by kernel_rfl));obtain⟨fuel,hf⟩:=h;obtain⟨y0,y1,y2,y3,y4,n,h0,h1,h2,h3,h4⟩:=Fe Tryz.underlying26 hf;have one:Tryz.prog.cellsOf 3=1:=by kernel_rfl
 have Oc:Tryz.prog.cellsOf 4=1:=by kernel_rfl
 simp[Value.cells,one,Oc]at h0 h1 h2 h3 h4;obtain⟨k,e0,_⟩:=DataW.trod_int Tryz.underlying3 h0;obtain⟨a,e1,_⟩:=DataW.trod_int Tryz.underlying3 h1;obtain⟨b,e2,_⟩:=DataW.trod_int Tryz.underlying3 h2;obtain⟨g,e3,_⟩:=DataW.trod_int Tryz.underlying3 h3;obtain⟨o,e4,_⟩:=DataW.trod_bool Tryz.underlying4 h4;simp only[List.cons.injEq,and_true]at e0 e1 e2 e3 e4;subst e0 e1 e2 e3 e4
 refine⟨k,a,b,g,o,.agg [.int .i64 k,.int .i64 a,.int .i64 b,.int .i64 g,.bool o] [I k,I a,I b,I g,.bool o] rfl fun i u x hu hx=>?_⟩
 match i,hu,hx with
 |0,hu,hx=>simp at hu hx;subst hu hx;exact .int _ _
 |1,hu,hx=>simp at hu hx;subst hu hx;exact .int _ _
 |2,hu,hx=>simp at hu hx;subst hu hx;exact .int _ _
 |3,hu,hx=>simp at hu hx;subst hu hx;exact .int _ _
 |4,hu,hx=>simp at hu hx;subst hu hx;exact .bool _
end
end Go.Proofs.YthohfoombimbeaaGreatDoor
namespace Go.Proofs.YthohfoombimbeaaGreatDoor
open Go Go.RowKit
set_option maxRecDepth 99999
set_option maxHeartbeats 4000000
def e9(p:List (Int×Int)):List AV:=p.flatMap fun t=>[I t.1,I t.2]
abbrev tmA(p:List (Int×Int)):AV:= .ro 2 p.length (.lst (e9 p))
abbrev plA(b:Bool)(p:List (Int×Int)):AV:= .agg [.bool b,tmA p]
attribute [go_sem] tmA plA
theorem yb7(p:List (Int×Int)):(e9 p).length=2*p.length:=by
 unfold e9;induction p with
 |nil=>rfl
 |cons x p ih=>simp[ih];omega
theorem ve(p:List (Int×Int))(i:Nat)(h:i<p.length):(e9 p).getD (i*2) .any=I (p.getD i (0,0)).1:=by
 unfold e9;induction p generalizing i with
 |nil=>simp at h
 |cons x p ih=>
  cases i with
  |zero=>simp
  |succ i=>
   have:=ih i (by simpa using h)
   simp only[List.flatMap_cons,List.getD_cons_succ];rw[show (i+1)*2=i*2+1+1 by omega];simpa using this
theorem Bd(p:List (Int×Int))(i:Nat)(h:i<p.length):(e9 p).getD (i*2+1) .any=I (p.getD i (0,0)).2:=by
 unfold e9;induction p generalizing i with
 |nil=>simp at h
 |cons x p ih=>
  cases i with
  |zero=>simp
  |succ i=>
   have:=ih i (by simpa using h)
   simp only[List.flatMap_cons,List.getD_cons_succ];rw[show (i+1)*2+1=i*2+1+1+1 by omega];simpa using this
theorem Bb(v l:Int)(h0:0<=l)(h1:l<=9000000000000000000):Fn Tryz.prog 28 [I v,I l] (.bool (jO v l)):=by
 unfold jO;refine Fn.intro [.tmp 4] Tryz.func28 rfl rfl (by decide) (by simp[Tryz.ntmps28]) ?_;rw[Tryz.ntmps28]
 repeat' (first|omega|(try apply ah);simp only[go_sem]|apply ag<;>(intro h_;(try simp only[h_]);revert h_)|apply zO|with_reducible intro h_|trivial)
 all_goals simp_all
 all_goals omega
theorem IU{p:List (Int×Int)}{x:AV}(h:x∈e9 p):∃n,x=I n:=by
 unfold e9 at h;obtain⟨t,_,ht⟩:=List.mem_flatMap.1 h;simp only[zzD,zI,or_false]at ht;rcases ht with e|e<;>exact⟨_,e⟩
theorem HZ(p:List (Int×Int)):(e9 p).all p1=true:=zZ.2 fun x hx=>by obtain⟨n,rfl⟩:=IU hx;rfl
theorem ybm(H:Hp)(p:List (Int×Int)):(e9 p).all (s3 H)=true:=zZ.2 fun x hx=>by obtain⟨n,rfl⟩:=IU hx;rfl
theorem y9s(p:List (Int×Int)):(e9 p).all ycg=true:=zZ.2 fun x hx=>by obtain⟨n,rfl⟩:=IU hx;rfl
theorem y7d(i:Nat)(p:List (Int×Int)):(e9 p).map (cutV i)=e9 p:=by
 conv=>rhs;rw[<-List.map_id (e9 p)]
 exact List.map_congr_left fun x hx=>by obtain⟨n,rfl⟩:=IU hx;rfl
theorem y3m(H:Hp)(n:Nat)(p:List (Int×Int)):(e9 p).map (snap H (n+1))=e9 p:=y6z (HZ p) H n
theorem yhb(H:Hp)(n:Nat)(p:List (Int×Int)):(∀x∈e9 p,dO H (n+1) x)=True:=y29 (HZ p) H n
theorem y7e(H:Hp)(n:Nat)(p:List (Int×Int)):(e9 p).map (cH H (n+1))=e9 p:=ZV (HZ p) H n
theorem y3n(H:Hp)(n:Nat)(p:List (Int×Int)):(∀x∈e9 p,cO H (n+1) x)=True:=y60 (HZ p) H n
theorem EH(p:List (Int×Int))(e c:Int):e9 p++[AV.int .i64 e,AV.int .i64 c]=e9 (p++[(e,c)]):=by simp[e9]
attribute [go_sem] ybm y9s y7d y3m yhb y7e y3n yb7
theorem y3o(fr:Fr):unl (lft fr)=fr:=by
 induction fr with
 |nil=>rfl
 |cons q r ih=>
  obtain⟨t,x⟩:=q;simp only[lft,unl];rw[zM (by omega),ih,Nat.add_sub_cancel]
theorem y3p(i:Nat)(fr:Fr):fcut i (lft fr)=lft (fcut i fr):=by
 induction fr with
 |nil=>rfl
 |cons q r ih=>obtain⟨t,x⟩:=q;simp only[lft,fcut,ih]
attribute [go_sem] y3o y3p
theorem ES{p:List (Int×Int)}(h:wZ p){i:Nat}(hi:i<p.length): -1125899906842624<=(p.getD i (0,0)).2/\(p.getD i (0,0)).2<=1125899906842624:=h _ (by simp[hi])
set_option maxHeartbeats 8000000
theorem y7f(c e:Int)(h0: -1125899906842624<=c/\c<=1125899906842624)(h1: -1048576<=e/\e<=1048576):Fn Tryz.prog 26 [I c,I e] (plA false (Jy c e)):=by
 have xv:=Bb c 1125899906842624 (by omega) (by omega);have Dw:=Bb e 1048576 (by omega) (by omega);rw[Mf (by omega) (by omega)]at xv Dw;unfold Jy;by_cases h:c=0
 ·have bz:(c==0)=true:=by simpa using h
  rw[zM h];refine Fn.av [.cell 4 34] Tryz.func26 rfl rfl (by decide) (by simp[Tryz.ntmps26]) ?_;rw[Tryz.ntmps26]
  repeat' (first|omega|(try apply ah);simp only[go_sem,bz]|apply ag<;>(intro h_;(try simp only[h_]);revert h_)|apply zO|with_reducible intro h_|trivial)
  all_goals exact aT.pK (.cons (aT.refl _) (.cons (aT.nils (by omega) rfl) .nil))
 ·have bz:(c==0)=false:=by rw[zX];exact h
  rw[zL h];refine Fn.av [.cell 4 34] Tryz.func26 rfl rfl (by decide) (by simp[Tryz.ntmps26]) ?_;rw[Tryz.ntmps26]
  repeat' (first|omega|(try apply ah);simp only[go_sem,bz]|apply ag<;>(intro h_;(try simp only[h_]);revert h_)|apply zO|with_reducible intro h_|trivial)
  refine⟨aL.fn rfl xv ?_⟩
  repeat' (first|omega|(try apply ah);simp only[go_sem]|apply ag<;>(intro h_;(try simp only[h_]);revert h_)|apply zO|with_reducible intro h_|trivial)
  refine⟨aL.fn rfl Dw ?_⟩
  repeat' (first|omega|(try apply ah);simp only[go_sem]|apply ag<;>(intro h_;(try simp only[h_]);revert h_)|apply zO|with_reducible intro h_|trivial)
  all_goals exact aT.of rfl
def Lc:fc:=[(28,[[95,96,97,98],[94,96,97,98],[94,95,97],[94,95,96],[94,95],[],[]],[[],[0],[0,1],[0,1,2],[0,1],[],[]]),(30,[[102],[101,4],[102],[]],[[],[0],[1],[]])]
def Lb:wV:=[(28,.node [(0,.node [(1,.node [(2,trD [3,4,5,6]),(3,trD [2,4,5,6])]),(2,.node [(1,trD [3,4,5,6]),(3,.node [(1,trD [4,5,6]),(4,trD [1,5,6])])]),(3,.node [(1,trD [2,4,5,6]),(2,.node [(1,trD [4,5,6]),(4,trD [1,5,6])])])]),(1,.node [(0,.node [(2,trD [3,4,5,6]),(3,trD [2,4,5,6])]),(2,.node [(0,trD [3,4,5,6]),(3,.node [(0,trD [4,5,6]),(4,trD [0,5,6])])]),(3,.node [(0,trD [2,4,5,6]),(2,.node [(0,trD [4,5,6]),(4,trD [0,5,6])])])]),(2,.node [(0,.node [(1,trD [3,4,5,6]),(3,.node [(1,trD [4,5,6]),(4,trD [1,5,6])])]),(1,.node [(0,trD [3,4,5,6]),(3,.node [(0,trD [4,5,6]),(4,trD [0,5,6])])]),(3,.node [(0,.node [(1,trD [4,5,6]),(4,trD [1,5,6])]),(1,.node [(0,trD [4,5,6]),(4,trD [0,5,6])]),(4,.node [(0,trD [1,5,6]),(1,trD [0,5,6])])])]),(3,.node [(0,.node [(1,trD [2,4,5,6]),(2,.node [(1,trD [4,5,6]),(4,trD [1,5,6])])]),(1,.node [(0,trD [2,4,5,6]),(2,.node [(0,trD [4,5,6]),(4,trD [0,5,6])])]),(2,.node [(0,.node [(1,trD [4,5,6]),(4,trD [1,5,6])]),(1,.node [(0,trD [4,5,6]),(4,trD [0,5,6])]),(4,.node [(0,trD [1,5,6]),(1,trD [0,5,6])])])])]),(30,.node [(0,.node [(1,trD [2,3]),(2,trD [1,3])]),(1,trD [0,2,3])])]
def tN(N k:Nat):List Int:=(List.range N).map fun x=>if x<k then (x:Int) else 0
theorem Rv(N k:Nat):(tN N k).length=N:=by simp[tN]
theorem FW(N:Nat):tN N 0=List.replicate N 0:=by
 apply List.ext_getElem?;intro i;by_cases h:i<N<;>simp[tN,h]
theorem y7g(N k:Nat)(h:k<N):(tN N k).set k (k:Int)=tN N (k+1):=by
 apply List.ext_getElem?;intro i;rw[List.getElem?_set,Rv];by_cases e:k=i
 ·subst e;simp[tN,h]
 ·rw[zL e];by_cases hi:i<N
  ·simp only[tN,zR,List.getElem?_range hi,Option.map_some];by_cases h2:i<k
   ·rw[zM h2,zM (by omega)]
   ·rw[zL h2,zL (by omega)]
  ·simp[tN,hi]
theorem y3q(N:Nat):tN N N=(List.range N).map (Nat.cast:Nat->Int):=by
 apply List.ext_getElem?;intro i;by_cases h:i<N<;>simp[tN,h]
abbrev V4:AV:= .fn 60 [.ptr 4 0,.ptr 2 0,.ptr 3 0]
theorem y3r(s m:List Int)(L:Int)(g:Nat)(cc:List AV)(ch:Nat->Bool)(hs:s.length<=1000)(hm:rI m s.length)(dM:cc.all p1=true)(hf:∀c:Nat,c<s.length->Fn Tryz.prog g (I c::cc) (.bool (ch c))):
  Fn Tryz.prog 21 [dgA s m L,.fn g cc] (.tup [roI (ff m ch s.length),I (roots (ff m ch s.length))]):=by
 have dw:=hm.1;refine Fn.av [.tmp 4,.tmp 5] Tryz.func21 rfl rfl (by decide) (by simp[Tryz.ntmps21]) ?_;rw[Tryz.ntmps21]
 repeat' (first|omega|(try apply ah);simp only[go_sem]|apply ag<;>(intro h_;(try simp only[h_]);revert h_)|apply zO|with_reducible intro h_|trivial)
 refine dr.intro (fun n fr H=>∃k:Nat,k<=m.length/\n=m.length-k/\fr=[(21,I k),(20,I m.length),(6,.ptr 2 0),(2,.ptr 0 0),(1,.fn g cc)]/\H=[(2,.cells 22 (.lst [.sl 1 1 0 m.length])),(1,.cells 3 (.ints (tN m.length k))),(0,.cells 24 (.lst [roI s,roI m,I L]))]) ?_ ?_
 ·refine⟨_,_,_,?_,0,by omega,rfl,rfl,rfl⟩;rw[FW];refine Wk.sub ?_ ?_<;>(simp only[go_sem,xK dM,xL dM])
  all_goals trace_state
 rintro n fr H ⟨k,hk,rfl,rfl,rfl⟩;have il:=Rv m.length k;by_cases cX:k<m.length
 ·repeat' (first|omega|(try apply ah);simp only[go_sem]|apply ag<;>(intro h_;(try simp only[h_]);revert h_)|apply zO|with_reducible intro h_|trivial)
  rw[y7g m.length k cX];refine⟨_,_,_,?_,?_,⟨k+1,by omega,rfl,rfl,rfl⟩⟩
  ·omega
  ·refine Wk.sub ?_ ?_<;>(simp only[go_sem,xK dM,xL dM])
   all_goals simp_all
 obtain rfl:k=m.length:=by omega
 repeat' (first|omega|(try apply ah);simp only[go_sem]|apply ag<;>(intro h_;(try simp only[h_]);revert h_)|apply zO|with_reducible intro h_|trivial)
 refine dr.intro (fun n fr H=>∃(k:Nat) (l:List Int),k<=m.length/\n=m.length-k/\UF l (ke m k) m.length/\fr=[(36,I k),(35,I m.length),(34,roI m),(10,V4),(9,.ptr 4 0),(8,.ptr 3 0),(6,.ptr 2 0),(2,.ptr 0 0),(1,.fn g cc)]/\H=Af s m L l (roots (ke m k))) ?_ ?_
 ·refine⟨_,_,_,?_,0,tN m.length m.length,by omega,rfl,by rw[y3q];exact UF.init _,rfl,rfl⟩;have h0:(roots (ke m 0):Int)=m.length:=by rw[ke,Ym]
  refine Wk.sub ?_ ?_<;>(simp only[go_sem,xK dM,xL dM,h0])
 rintro n fr H ⟨k,l,hk,rfl,hu,rfl,rfl⟩;have rZ:=hu.len;by_cases cX:k<m.length
 ·have xz:=hm.2 k (by omega);by_cases aC:(k:Int)<m.getD k 0
  ·have b0:decide ((k:Int)<m.getD k 0)=true:=by simpa using aC
   obtain⟨y,hy⟩:∃y:Nat,m.getD k 0=y:=⟨(m.getD k 0).toNat,by omega⟩;have eA:ke m (k+1)=iL (ke m k) k y:=by simp only[ke,zM aC];rw[hy,zD]
   rw[hy]at b0 xz
   repeat' (first|omega|(try apply ah);simp only[go_sem,b0,hy]|apply ag<;>(intro h_;(try simp only[h_]);revert h_)|apply zO|with_reducible intro h_|trivial)
   refine⟨aL.inline (ET s m L l (ke m k) _ hu rfl k y cX (by omega) (by omega) ?_)⟩;intro l' r uI;rw[<-eA]at uI⊢
   repeat' (first|omega|(try apply ah);simp only[go_sem]|apply ag<;>(intro h_;(try simp only[h_]);revert h_)|apply zO|with_reducible intro h_|trivial)
   refine⟨_,_,_,?_,?_,⟨k+1,l',by omega,rfl,uI,rfl,rfl⟩⟩
   ·omega
   ·refine Wk.sub ?_ ?_<;>(simp only[go_sem,xK dM,xL dM])
    all_goals simp_all
  ·have b0:decide ((k:Int)<m.getD k 0)=false:=by simpa using aC
   have eA:ke m (k+1)=ke m k:=by simp only[ke,zL aC]
   repeat' (first|omega|(try apply ah);simp only[go_sem,b0]|apply ag<;>(intro h_;(try simp only[h_]);revert h_)|apply zO|with_reducible intro h_|trivial)
   refine⟨_,_,_,?_,?_,⟨k+1,l,by omega,rfl,by rw[eA];exact hu,rfl,rfl⟩⟩
   ·omega
   ·refine Wk.sub ?_ ?_<;>(simp only[go_sem,xK dM,xL dM,eA])
    all_goals simp_all
 obtain rfl:k=m.length:=by omega
 repeat' (first|omega|(try apply ah);simp only[go_sem]|apply ag<;>(intro h_;(try simp only[h_]);revert h_)|apply zO|with_reducible intro h_|trivial)
 refine dr.intro (fun n fr H=>∃(k:Nat) (l:List Int),k<=s.length/\n=s.length-k/\UF l (ff m ch k) m.length/\fr=[(52,I k),(51,I s.length),(10,V4),(9,.ptr 4 0),(8,.ptr 3 0),(6,.ptr 2 0),(2,.ptr 0 0),(1,.fn g cc)]/\H=Af s m L l (roots (ff m ch k))) ?_ ?_
 ·refine⟨_,_,_,?_,0,l,by omega,rfl,hu,rfl,rfl⟩;refine Wk.sub ?_ ?_<;>(simp only[go_sem,xK dM,xL dM])
  all_goals simp_all[ff]
 clear hu rZ cX hk l;rintro n fr H ⟨k,l,hk,rfl,hu,rfl,rfl⟩;have rZ:=hu.len;by_cases cX:k<s.length
 ·have gK:=hf k cX;have c1:(4*(k:Int)+1)=((4*k+1:Nat):Int):=by omega
  have c2:(4*(k:Int)+2)=((4*k+2:Nat):Int):=by omega
  have c3:(4*(k:Int)+3)=((4*k+3:Nat):Int):=by omega
  have c0:(4*(k:Int))=((4*k:Nat):Int):=by omega
  cases pg:ch k with
  |true=>
   have eB:ff m ch (k+1)=iL (iL (ff m ch k) (4*k+1) (4*k+2)) (4*k+3) (4*k):=by simp only[ff,pg,if_true]
   rw[pg]at gK
   repeat' (first|omega|(try apply ah);simp only[go_sem]|apply ag<;>(intro h_;(try simp only[h_]);revert h_)|apply zO|with_reducible intro h_|trivial)
   refine⟨aL.fn (by simp only[List.all_cons,U3 dM];rfl) gK ?_⟩
   repeat' (first|omega|(try apply ah);simp only[go_sem]|apply ag<;>(intro h_;(try simp only[h_]);revert h_)|apply zO|with_reducible intro h_|trivial)
   rw[c1,c2];refine⟨aL.inline (ET s m L l (ff m ch k) _ hu rfl (4*k+1) (4*k+2) (by omega) (by omega) (by omega) ?_)⟩;intro l1 r1 kU
   repeat' (first|omega|(try apply ah);simp only[go_sem]|apply ag<;>(intro h_;(try simp only[h_]);revert h_)|apply zO|with_reducible intro h_|trivial)
   rw[c3,c0];refine⟨aL.inline (ET s m L l1 _ _ kU rfl (4*k+3) (4*k) (by omega) (by omega) (by omega) ?_)⟩;intro l2 r2 ns;rw[<-eB]at ns⊢
   repeat' (first|omega|(try apply ah);simp only[go_sem]|apply ag<;>(intro h_;(try simp only[h_]);revert h_)|apply zO|with_reducible intro h_|trivial)
   refine⟨_,_,_,?_,?_,⟨k+1,l2,by omega,rfl,ns,rfl,rfl⟩⟩
   ·omega
   ·refine Wk.sub ?_ ?_<;>(simp only[go_sem,xK dM,xL dM])
    all_goals simp_all
  |false=>
   have eB:ff m ch (k+1)=iL (iL (ff m ch k) (4*k) (4*k+1)) (4*k+2) (4*k+3):=by simp only[ff,pg];rfl
   rw[pg]at gK
   repeat' (first|omega|(try apply ah);simp only[go_sem]|apply ag<;>(intro h_;(try simp only[h_]);revert h_)|apply zO|with_reducible intro h_|trivial)
   refine⟨aL.fn (by simp only[List.all_cons,U3 dM];rfl) gK ?_⟩
   repeat' (first|omega|(try apply ah);simp only[go_sem]|apply ag<;>(intro h_;(try simp only[h_]);revert h_)|apply zO|with_reducible intro h_|trivial)
   rw[c1,c0];refine⟨aL.inline (ET s m L l (ff m ch k) _ hu rfl (4*k) (4*k+1) (by omega) (by omega) (by omega) ?_)⟩;intro l1 r1 kU
   repeat' (first|omega|(try apply ah);simp only[go_sem]|apply ag<;>(intro h_;(try simp only[h_]);revert h_)|apply zO|with_reducible intro h_|trivial)
   rw[c2,c3];refine⟨aL.inline (ET s m L l1 _ _ kU rfl (4*k+2) (4*k+3) (by omega) (by omega) (by omega) ?_)⟩;intro l2 r2 ns;rw[<-eB]at ns⊢
   repeat' (first|omega|(try apply ah);simp only[go_sem]|apply ag<;>(intro h_;(try simp only[h_]);revert h_)|apply zO|with_reducible intro h_|trivial)
   refine⟨_,_,_,?_,?_,⟨k+1,l2,by omega,rfl,ns,rfl,rfl⟩⟩
   ·omega
   ·refine Wk.sub ?_ ?_<;>(simp only[go_sem,xK dM,xL dM])
    all_goals simp_all
 obtain rfl:k=s.length:=by omega
 repeat' (first|omega|(try apply ah);simp only[go_sem]|apply ag<;>(intro h_;(try simp only[h_]);revert h_)|apply zO|with_reducible intro h_|trivial)
 obtain⟨R,hR⟩:∃R,R=ff m ch s.length:=⟨_,rfl⟩;rw[<-hR]at hu⊢;refine dr.intro (fun n fr H=>∃(k:Nat) (l:List Int),k<=m.length/\n=m.length-k/\UF l R m.length/\(∀x,x<k->l.getD x 0=R.getD x 0)/\fr=[(91,I k),(90,I m.length),(9,.ptr 4 0),(8,.ptr 3 0),(6,.ptr 2 0)]/\H=Af s m L l (roots R)) ?_ ?_
 ·refine⟨_,_,_,?_,0,l,by omega,rfl,hu,(fun x hx=>zzA hx (by omega)),rfl,rfl⟩;refine Wk.sub ?_ ?_<;>(simp only[go_sem,xK dM,xL dM])
  all_goals simp_all
 clear hu rZ cX hk l;rintro n fr H ⟨k,l,hk,rfl,hu,hd,rfl,rfl⟩;have rZ:=hu.len;by_cases cX:k<m.length
 ·repeat' (first|omega|(first|apply ah|refine gH Lb ?_|refine aw Lc ?_|skip);simp only[go_sem,rZ]|apply ag<;>(intro h_;(try simp only[h_]);revert h_)|apply zO|with_reducible intro h_|trivial)
  all_goals refine⟨aL.inline (MR s m L l R _ hu k cX (by omega) ?_)⟩
  all_goals (
   intro l1 kU dW;have OB:=kU.len
   repeat' (first|omega|(first|apply ah|refine gH Lb ?_|refine aw Lc ?_|skip);simp only[go_sem,OB]|apply ag<;>(intro h_;(try simp only[h_]);revert h_)|apply zO|with_reducible intro h_|trivial))
  all_goals (
   refine⟨_,_,_,?_,?_,⟨k+1,l1.set k (R.getD k 0),by omega,rfl,kU.put cX,?_,rfl,rfl⟩⟩
   ·omega
   ·refine Wk.sub ?_ ?_<;>(simp only[go_sem])
    all_goals simp_all
   ·intro x hx;by_cases e:k=x
    ·subst e;exact rm (by omega)
    ·rw[rM e];exact dW x (by omega) (hd x (by omega)))
 obtain rfl:k=m.length:=by omega
 have jL:l=R:=by
  have:=hu.rep.len
  apply List.ext_getElem?;intro i;by_cases hi:i<m.length
  ·have:=hd i hi
   simpa [zB,zJ (show i<l.length by omega),zJ (show i<R.length by omega)] using this
  ·rw[zS (by omega),zS (by omega)]
 subst jL
 repeat' (first|omega|(first|apply ah|refine aw Lc ?_|refine gH Lb ?_|skip);simp only[go_sem,rZ]|apply ag<;>(intro h_;(try simp only[h_]);revert h_)|apply zO|with_reducible intro h_|trivial)
 all_goals exact aT.of (by rw[zU (by omega)])
end Go.Proofs.YthohfoombimbeaaGreatDoor
