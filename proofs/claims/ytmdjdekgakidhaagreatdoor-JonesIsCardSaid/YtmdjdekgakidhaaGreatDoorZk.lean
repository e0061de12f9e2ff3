/- Layer 14: the strands at the crossings, and the writhe. -/
import Derived.Test.YtmdjdekgakidhaaGreatDoorZj
import Derived.Test.YtmdjdekgakidhaaGreatDoorZa
import Derived.Test.YtmdjdekgakidhaaGreatDoorZb
namespace Go.Proofs.YtmdjdekgakidhaaGreatDoor
open Go Go.RowKit
set_option maxRecDepth 100000
set_option maxHeartbeats 8000000
set_option linter.unusedVariables false
set_option linter.unusedSimpArgs false
def Sb:Tr:= .node [(0, .node [(1, .node [(2,trD [3,4,5,6,7]),(3,trD [2,4,5,6,7])]),(3,trD [1,2,4,5,6,7])]),(1, .node [(0, .node [(2,trD [3,4,5,6,7]),(3,trD [2,4,5,6,7])]),(2, .node [(0,trD [3,4,5,6,7]),(3, .node [(0,trD [4,5,6,7]),(4, .node [(0,trD [5,6,7]),(5,trD [0,6,7])])])]),(3, .node [(0,trD [2,4,5,6,7]),(2, .node [(0,trD [4,5,6,7]),(4, .node [(0,trD [5,6,7]),(5,trD [0,6,7])])])])]),(3, .node [(0,trD [1,2,4,5,6,7]),(1, .node [(0,trD [2,4,5,6,7]),(2, .node [(0,trD [4,5,6,7]),(4, .node [(0,trD [5,6,7]),(5,trD [0,6,7])])])])])]
theorem Ug (a b:Int):Fn Tryz.prog 91 [I a,I b] (.bool true):=by
 refine Fn.intro [.tmp 4] Tryz.func91 rfl rfl (by decide) (by simp [Tryz.ntmps91]) ?_;rw [Tryz.ntmps91]
 repeat' (first|omega|(try apply ag);simp only [go_sem,sevalprocAttr]|apply ae<;>(intro h_;(try simp only [h_]);revert h_)|apply And.intro|with_reducible intro h_|trivial|simp only [go_sem,ah];omega)
def wrS (s:List Int):Nat->Int
 |0=>0
 |n+1=>wrS s n+s.getD n 0
theorem Xe (s m:List Int) (L:Int) (g:Int->Option (Int×Int)) (t:Int) (c:Nat) (hc:c<s.length) (ht: -1000<=t/\t<=1000) (hs:s.getD c 0=1\/s.getD c 0= -1) {fr:Fr} {K:AV->Fr->Hp->Prop}
  (hK:K (.tup []) fr ((6, .cells 155 (.lst [I ((g c).getD (0,0)).1,I ((g c).getD (0,0)).2]))::KI s m L g (.fn 91 []) (t+s.getD c 0))):
  gq Tryz.prog 126 [I c, .ptr 4 0, .ptr 1 0, .ptr 5 0, .ptr 0 0] fr (KI s m L g (.fn 91 []) t) K:=by
 have hW:=Ug ((g c).getD (0,0)).1 ((g c).getD (0,0)).2;obtain ⟨x,hx⟩: ∃x,s.getD c 0=x:=⟨_,rfl⟩;rw [hx] at hs hK;refine gq.intro [] Tryz.func126 rfl rfl (by decide) (by simp [Tryz.ntmps126]) ?_;rw [Tryz.ntmps126]
 repeat' (first|omega|(try apply ag);simp only [go_sem,sevalprocAttr]|apply ae<;>(intro h_;(try simp only [h_]);revert h_)|apply And.intro|with_reducible intro h_|trivial|simp only [go_sem,ah];omega)
 refine ⟨au.fn rfl hW ?_⟩
 repeat' (first|omega|(first|apply ag|(refine aj.intro (id:=2) [[17,18,19,20,21],[16,19],[16,19],[16,17,18],[16],[16],[],[]] [[],[0],[0],[0,1,2],[0],[0],[],[]] (by decide+kernel) mixed ?_)|(refine aj.ay (id:=2) (Sb) (by decide+kernel) mixed ?_)|skip);simp only [go_sem,sevalprocAttr,hx,↓reduceIte,reduceCtorEq,Sb]|apply ae<;>(intro h_;(try simp only [h_]);revert h_)|apply And.intro|with_reducible intro h_|trivial|simp only [go_sem,ah];omega)
 all_goals exact hK
theorem Ku (s m:List Int) (L:Int) (hv:cX s m L=true):Fn Tryz.prog 90 [dgA s m L, .fn 91 []] (I (wrS s s.length)):=by
 have hA:=UP s m L hv;have v1:=jb hv;have CG:=v1.s64;have hb: ∀c,c<=s.length-> -(c:Int)<=wrS s c/\wrS s c<=c:=fun c=>by
  induction c with
  |zero=>intro _;simp [wrS]
  |succ c ih=>
   intro hc
   have:=ih (by omega)
   have:=v1.sg c (by omega)
   simp only [wrS];omega
 generalize vY (ff s m) (ff s m).length=g at*;refine Fn.intro [.tmp 4] Tryz.func90 rfl rfl (by decide) (by simp [Tryz.ntmps90]) ?_;rw [Tryz.ntmps90]
 repeat' (first|omega|(try apply ag);simp only [go_sem,sevalprocAttr]|apply ae<;>(intro h_;(try simp only [h_]);revert h_)|apply And.intro|with_reducible intro h_|trivial|simp only [go_sem,ah];omega)
 refine ⟨au.Zt rfl hA ?_⟩
 repeat' (first|omega|(try apply ag);simp only [go_sem,sevalprocAttr]|apply ae<;>(intro h_;(try simp only [h_]);revert h_)|apply And.intro|with_reducible intro h_|trivial|simp only [go_sem,ah];omega)
 refine aR.intro (fun n fr H=> ∃c:Nat,c<=s.length/\n=s.length-c/\fr=[(15,I c),(14,I s.length),(7, .fn 126 [.ptr 4 0, .ptr 1 0, .ptr 5 0, .ptr 0 0]),(6, .ptr 5 0)]/\H=KI s m L g (.fn 91 []) (wrS s c)) ?_ ?_
 ·refine ⟨_,_,_,Wk.sub ?_ ?_,0,by omega,rfl,rfl,rfl⟩
  ·simp only [go_sem,sevalprocAttr]
  ·(simp only [go_sem,sevalprocAttr,wrS])<;>rfl
 rintro n fr H ⟨c,hc,rfl,rfl,rfl⟩;have L7:=hb c hc;by_cases b5:c<s.length
 ·have bc:decide ((c:Int)<s.length)=true:=by simpa using b5
  repeat' (first|omega|(try apply ag);simp only [go_sem,sevalprocAttr,bc]|apply ae<;>(intro h_;(try simp only [h_]);revert h_)|apply And.intro|with_reducible intro h_|trivial|simp only [go_sem,ah];omega)
  refine ⟨au.inline (Xe s m L g (wrS s c) c b5 (by omega) (v1.sg c b5) ?_)⟩
  repeat' (first|omega|(try apply ag);simp only [go_sem,sevalprocAttr]|apply ae<;>(intro h_;(try simp only [h_]);revert h_)|apply And.intro|with_reducible intro h_|trivial|simp only [go_sem,ah];omega)
  refine ⟨_,_,_,?_,Wk.sub ?_ ?_,c+1,by omega,rfl,rfl,rfl⟩
  ·omega
  ·simp only [go_sem,sevalprocAttr]
  ·(simp only [go_sem,sevalprocAttr,wrS])<;>rfl
 ·obtain rfl:c=s.length:=by omega
  have bc:decide (((s.length:Nat):Int)<s.length)=false:=by simp
  repeat' (first|omega|(try apply ag);simp only [go_sem,sevalprocAttr,bc]|apply ae<;>(intro h_;(try simp only [h_]);revert h_)|apply And.intro|with_reducible intro h_|trivial|simp only [go_sem,ah];omega)
theorem Xd (s m:List Int) (L:Int) (hv:cX s m L=true):Fn Tryz.prog 50 [dgA s m L] (I (wrS s s.length)):=by
 have hV:=vh s m L;rw [hv] at hV;have hS:=Ku s m L hv;refine Fn.intro [.tmp 2] Tryz.func50 rfl rfl (by decide) (by simp [Tryz.ntmps50]) ?_;rw [Tryz.ntmps50]
 repeat' (first|omega|(try apply ag);simp only [go_sem,sevalprocAttr]|apply ae<;>(intro h_;(try simp only [h_]);revert h_)|apply And.intro|with_reducible intro h_|trivial|simp only [go_sem,ah];omega)
 refine ⟨au.fn rfl hV ?_⟩
 repeat' (first|omega|(try apply ag);simp only [go_sem,sevalprocAttr]|apply ae<;>(intro h_;(try simp only [h_]);revert h_)|apply And.intro|with_reducible intro h_|trivial|simp only [go_sem,ah];omega)
 refine ⟨au.fn rfl hS ?_⟩
 repeat' (first|omega|(try apply ag);simp only [go_sem,sevalprocAttr]|apply ae<;>(intro h_;(try simp only [h_]);revert h_)|apply And.intro|with_reducible intro h_|trivial|simp only [go_sem,ah];omega)
end Go.Proofs.YtmdjdekgakidhaaGreatDoor
set_option linter.unusedSimpArgs false
set_option linter.unusedVariables false
namespace Go.Proofs.YtmdjdekgakidhaaGreatDoor
open Go Go.RowKit
set_option maxRecDepth 100000
set_option maxHeartbeats 8000000
def Dl:List (List Nat):=[[17,18,19,20,21,22],[17,18,19,20,21,22],[15,16,18,19],[15,16,17],[15,16,17],[15,16],[15,16],[15,16],[],[]]
theorem Wk.jU (ids:List Nat) {fr fr':Fr} {H H':Hp} (h1:yd6 (hsel H ids) fr) (h2:yc8 (hsel H ids) H) (dx:frzF (hsel H ids) fr=fr') (hH:cG (hsel H ids) H=H'):Wk fr H fr' H':=by
 subst dx;subst hH;exact fun _ _ _ _ _ ρ _ hs=>⟨ρ,hs.freeze (fun i o=>Aq i o) h1 h2⟩
theorem PL: ∀(ts:List Int) (r:ByteArray),(ts.foldl (fun r n=>r.push (UInt8.ofNat n.toNat)) r).data.toList=r.data.toList++ts.map fun t=>UInt8.ofNat t.toNat
 |[],r=>by simp
 |t::ts,r=>by
  rw [List.foldl_cons,PL ts];simp [ByteArray.push]
def pS (T:List Nat):ByteArray:=nT (T.map fun (i:Nat)=>(97:Int)+i)
theorem Gu (T:List Nat):(pS T).data.toList=T.map fun i=>UInt8.ofNat (97+i):=by
 unfold pS nT;rw [PL];simp only [ByteArray.data_empty,Array.toList_empty,List.nil_append,List.map_map];exact List.map_congr_left fun i _=>by
  simp only [Function.comp];congr 1
theorem Kt (T:List Nat):(pS T).size=T.length:=by
 have:=congrArg List.length (Gu T)
 simpa using this
theorem A6 {T:List Nat} {x:Nat} (h:x<T.length) (hb:T.getD x 0<100):(((pS T).data.toList.getD x 0).toNat:Int)=97+(T.getD x 0:Nat):=by
 rw [Gu];simp only [zzB,List.getElem?_map,zzI h,Option.map_some,Option.getD_some] at hb⊢;rw [UInt8.toNat_ofNat'];omega
def jJ (aN:Nat) (T:List Nat) (J:List Int) (x:Nat):Int:=if x<aN then (T.getD x 0:Nat) else aN+J.getD (x-aN) 0
abbrev y8o (aN:Nat) (glue index ends:List Int):Cs:= .lst [I aN,roI glue,roI index,roI ends]
attribute [go_sem] y8o
theorem IW (aN x:Nat) (glue index ends:List Int) (T:List Nat) (J:List Int) (hT:T.length=aN) (hb: ∀i∈T,i<100) (hJ:J.length=4) (Ml: ∀i,0<=J.getD i 0/\J.getD i 0<=3) (hx:x<aN+4) (hc:aN<=1000):
  Fn Tryz.prog 156 [I x, .rp (y8o aN glue index ends) 0, .rp (.lst [.str (pS T)]) 0, .rp (.lst (J.map (AV.int .i64))) 0] (I (jJ aN T J x)):=by
 by_cases h:x<aN
 ·have b0:decide ((x:Int)<aN)=true:=by simp;omega
  have Mi:T.getD x 0<100:=by
   rw [zzB,zzI (show x<T.length by omega)];exact hb _ (List.getElem_mem _)
  have e1:=A6 (T:=T) (x:=x) (by omega) Mi;have e2:=Kt T;unfold jJ;rw [if_pos h];have w1:IntKind.u8.wrap (97+((T.getD x 0:Nat):Int)-97)=((T.getD x 0:Nat):Int):=by rw [IntWalk.u8_in _ (by omega)];omega
  have w2:IntKind.i64.wrap ((T.getD x 0:Nat):Int)=((T.getD x 0:Nat):Int):=IntWalk.i64_in _ (by omega);refine Fn.intro [.tmp 5] Tryz.func156 rfl rfl (by decide) (by simp [Tryz.ntmps156]) ?_;rw [Tryz.ntmps156]
  repeat' (first|omega|(first|apply ag|(refine aj.intro (id:=3) Dl [[],[],[0,1],[0,1,2],[0,1,2],[0,1],[0,1],[0,1],[],[]] (by decide+kernel) mixed ?_)|skip);simp only [go_sem,sevalprocAttr,b0,e1,e2,w1,w2,zzC,↓reduceIte,reduceCtorEq,Dl]|apply ae<;>(intro h_;(try simp only [h_]);revert h_)|apply And.intro|with_reducible intro h_|trivial|simp only [go_sem,ah];omega)
 ·have b0:decide ((x:Int)<aN)=false:=by simp;omega
  unfold jJ;rw [if_neg h];have e1:((x:Int)-aN).toNat=x-aN:=by omega
  have e2:(J.map (AV.int .i64)).getD (x-aN) .any=I (J.getD (x-aN) 0):=by
   have:x-aN<J.length:=by omega
   simp [zzB,this]
  have hr:=Ml (x-aN);refine Fn.intro [.tmp 5] Tryz.func156 rfl rfl (by decide) (by simp [Tryz.ntmps156]) ?_;rw [Tryz.ntmps156]
  repeat' (first|omega|(first|apply ag|(refine aj.intro (id:=3) Dl [[],[],[0,1],[0,1,2],[0,1,2],[0,1],[0,1],[0,1],[],[]] (by decide+kernel) mixed ?_)|skip);simp only [go_sem,sevalprocAttr,b0,e1,e2,zzC,List.length_map,hJ,↓reduceIte,reduceCtorEq,Dl]|apply ae<;>(intro h_;(try simp only [h_]);revert h_)|apply And.intro|with_reducible intro h_|trivial|simp only [go_sem,ah];omega)
def cY (cs:List Int) (k:Nat):List Int:=(List.range (cs.length+2)).map fun i=>(if i<k then-(cs.getD i 0) else 0)-(if 2<=i/\i-2<k then cs.getD (i-2) 0 else 0)
theorem wA (cs:List Int) (k:Nat):(cY cs k).length=cs.length+2:=by simp [cY]
theorem IV (cs:List Int):cY cs 0=List.replicate (cs.length+2) 0:=by
 apply List.ext_getElem?;intro i;by_cases h:i<cs.length+2<;>simp [cY,h]
theorem yg (cs:List Int) (k i:Nat) (h:i<cs.length+2):(cY cs k).getD i 0=(if i<k then-(cs.getD i 0) else 0)-(if 2<=i/\i-2<k then cs.getD (i-2) 0 else 0):=by
 simp [cY,zzB,h]
theorem Xc (cs:List Int) (k:Nat) (hk:k<cs.length):((cY cs k).set k ((cY cs k).getD k 0-cs.getD k 0)).set (k+2) ((cY cs k).getD (k+2) 0-cs.getD k 0)=cY cs (k+1):=by
 rw [yg _ _ _ (by omega),yg _ _ _ (by omega)];apply List.ext_getElem?;intro i;rw [List.getElem?_set,List.getElem?_set];simp only [zzL,wA];by_cases h2:k+2=i
 ·subst h2;rw [if_pos rfl,if_pos (by omega)];simp [cY,show k+2<cs.length+2 by omega];omega
 ·rw [if_neg h2];by_cases h1:k=i
  ·subst h1;rw [if_pos rfl,if_pos (by omega)];simp only [cY,List.getElem?_map,List.getElem?_range (show k<cs.length+2 by omega),Option.map_some];congr 1;by_cases h3:2<=k/\k-2<k
   ·rw [if_neg (by omega),if_pos h3,if_pos (by omega),if_pos (by omega)];omega
   ·rw [if_neg (by omega),if_neg h3,if_pos (by omega),if_neg (by omega)];omega
  ·rw [if_neg h1];by_cases hi:i<cs.length+2
   ·simp only [cY,List.getElem?_map,List.getElem?_range hi,Option.map_some];congr 1;have e1:(i<k)=(i<k+1):=propext ⟨fun h=>by omega,fun h=>by omega⟩;have e2:(2<=i/\i-2<k)=(2<=i/\i-2<k+1):=propext ⟨fun h=>⟨h.1,by omega⟩,fun h=>⟨h.1,by omega⟩⟩;simp only [e1,e2]
   ·rw [List.getElem?_eq_none (by rw [wA];omega),List.getElem?_eq_none (by rw [wA];omega)]
abbrev tpA (lo:Int) (cs:List Int):AV:= .agg [I lo,roI cs]
attribute [go_sem] tpA
theorem OO (lo:Int) (cs:List Int) (iv: -100000<=lo/\lo<=100000) (hl:cs.length<=100000) (hc: ∀i,-1152921504606846976<=cs.getD i 0/\cs.getD i 0<=1152921504606846976):Fn Tryz.prog 144 [tpA lo cs] (tpA (lo-2) (cY cs cs.length)):=by
 refine Fn.ai [.cell 2 137] Tryz.func144 rfl rfl (by decide) (by simp [Tryz.ntmps144]) ?_;rw [Tryz.ntmps144]
 repeat' (first|omega|(try apply ag);simp only [go_sem,sevalprocAttr]|apply ae<;>(intro h_;(try simp only [h_]);revert h_)|apply And.intro|with_reducible intro h_|trivial|simp only [go_sem,ah];omega)
 refine aR.intro (fun n fr H=> ∃k:Nat,k<=cs.length/\n=cs.length-k/\fr=[(14,I k),(13,I cs.length),(12,roI cs),(3, .sl 1 2 0 (cs.length+2)),(2, .ptr 1 0),(1, .ptr 0 0)]/\H=[(2, .cells 3 (.ints (cY cs k))),(1, .cells 137 (.lst [I 0, .nils])),(0, .cells 137 (.lst [I lo,roI cs]))]) ?_ ?_
 ·refine ⟨_,_,_,?_,0,by omega,rfl,rfl,rfl⟩;rw [IV];have e0:((cs.length:Int)+2).toNat=cs.length+2:=by omega
  refine Wk.sub ?_ ?_<;>(simp only [go_sem,sevalprocAttr,e0])
 rintro n fr H ⟨k,hk,rfl,rfl,rfl⟩;have tl:=wA cs k;by_cases bM:k<cs.length
 ·have bk:decide ((k:Int)<cs.length)=true:=by simp;omega
  have aY:=Xc cs k bM;have a1:=yg cs k k (by omega);have a2:=yg cs k (k+2) (by omega);rw [if_neg (by omega)] at a1;rw [if_neg (by omega),if_neg (by omega)] at a2;have c0:=hc k;have c2:=hc (k-2);have h1: -1152921504606846976<=(cY cs k).getD k 0/\(cY cs k).getD k 0<=1152921504606846976:=by rw [a1];split<;>omega
  have h2:(cY cs k).getD (k+2) 0=0:=by rw [a2];rfl
  have e1:((k:Int)+2).toNat=k+2:=by omega
  have e2:((cY cs k).set k ((cY cs k).getD k 0-cs.getD k 0)).getD (k+2) 0=(cY cs k).getD (k+2) 0:=by simp [zzB,List.getElem?_set,show¬k=k+2 by omega]
  generalize cY cs k=R at*
  repeat' (first|omega|(try apply ag);simp only [go_sem,sevalprocAttr,bk,e1,e2,tl,aY,zzL]|apply ae<;>(intro h_;(try simp only [h_]);revert h_)|apply And.intro|with_reducible intro h_|trivial|simp only [go_sem,ah];omega)
  refine ⟨_,_,_,?_,?_,⟨k+1,by omega,rfl,rfl,rfl⟩⟩
  ·omega
  ·refine Wk.sub ?_ ?_<;>simp only [go_sem,sevalprocAttr]
   all_goals simp_all
 ·obtain rfl:k=cs.length:=by omega
  have bk:decide ((cs.length:Int)<cs.length)=false:=by simp
  repeat' (first|omega|(try apply ag);simp only [go_sem,sevalprocAttr,bk,tl]|apply ae<;>(intro h_;(try simp only [h_]);revert h_)|apply And.intro|with_reducible intro h_|trivial|simp only [go_sem,ah];omega)
  all_goals (rw [List.take_of_length_le (by omega)];exact az.of (by simp [tl]))
end Go.Proofs.YtmdjdekgakidhaaGreatDoor
namespace Go.Proofs.YtmdjdekgakidhaaGreatDoor
def mI (n:Nat) (mt b:Int->Int):Nat:=roots (crN mt b (4*n) (4*n))
def eo (mt b:Int->Int) (y:Int) (x:Int):Int:=
 if x=y then mt y else if x=mt y then y else if x=b y then b (mt y) else if x=b (mt y) then b y else b x
section
variable {n:Nat} {mt b:Int->Int} (hi:Inv2 n mt b) {y:Int} (hy:aw n y) (av:b y≠mt y)
include hi hy av
theorem Ap:aw n (mt y)/\aw n (b y)/\aw n (b (mt y))/\mt y≠y/\b y≠y/\b (mt y)≠mt y/\b (mt y)≠y/\b (mt y)≠b y/\b y≠mt y:=by
 have h1:=hi.mr y hy;refine ⟨h1,hi.jr y hy,hi.jr _ h1,hi.mf y hy,hi.jf y hy,hi.jf _ h1,fun e=>?_,fun e=>?_,av⟩
 ·have:=congrArg b e
  rw [hi.jj _ h1] at this;exact av this.symm
 ·have:=congrArg b e
  rw [hi.jj _ h1,hi.jj _ hy] at this;exact hi.mf y hy this
theorem Gt:Inv2 n mt (eo mt b y):=by
 obtain ⟨z1,p1,q1,n1,n2,n3,n4,n5,n6⟩:=Ap hi hy av;refine ⟨hi.mr,fun x hx=>?_,hi.mm,fun x hx=>?_,hi.mf,fun x hx=>?_⟩
 ·unfold eo
  split
  ·exact z1
  ·split
   ·exact hy
   ·split
    ·exact q1
    ·split
     ·exact p1
     ·exact hi.jr x hx
 ·by_cases e1:x=y
  ·rw [e1];unfold eo;rw [if_pos rfl,if_neg n1,if_pos rfl]
  ·by_cases e2:x=mt y
   ·rw [e2];unfold eo;rw [if_neg n1,if_pos rfl,if_pos rfl]
   ·by_cases e3:x=b y
    ·have:eo mt b y x=b (mt y):=by unfold eo;rw [if_neg e1,if_neg e2,if_pos e3]
     rw [this];unfold eo;rw [if_neg n4,if_neg n3,if_neg n5,if_pos rfl,e3]
    ·by_cases e4:x=b (mt y)
     ·have:eo mt b y x=b y:=by unfold eo;rw [if_neg e1,if_neg e2,if_neg e3,if_pos e4]
      rw [this];unfold eo;rw [if_neg n2,if_neg n6,if_pos rfl,e4]
     ·have:eo mt b y x=b x:=by unfold eo;rw [if_neg e1,if_neg e2,if_neg e3,if_neg e4]
      rw [this];have k1:b x≠y:=fun e=>e3 (by rw [←e,hi.jj x hx]);have k2:b x≠mt y:=fun e=>e4 (by rw [←e,hi.jj x hx]);have k3:b x≠b y:=fun e=>e1 (by have:=congrArg b e;rwa [hi.jj x hx,hi.jj y hy] at this);have k4:b x≠b (mt y):=fun e=>e2 (by have:=congrArg b e;rwa [hi.jj x hx,hi.jj _ z1] at this);unfold eo;rw [if_neg k1,if_neg k2,if_neg k3,if_neg k4,hi.jj x hx]
 ·unfold eo
  split
  ·rename_i e;rw [e];exact n1
  ·split
   ·rename_i e;rw [e];exact n1.symm
   ·split
    ·rename_i e;rw [e];exact n5
    ·split
     ·rename_i e;rw [e];exact n5.symm
     ·exact hi.jf x hx
theorem Ks {u v:Int} (h:bf mt (eo mt b y) u v) (hu:aw n u):bf mt b u v:=by
 obtain ⟨z1,p1,q1,n1,n2,n3,n4,n5,n6⟩:=Ap hi hy av;have B6:=Gt hi hy av;have Bk:bf mt b y (mt y):= .aO (.refl y);have jQ:bf mt b (b y) (b (mt y)):=by
  have h1:bf mt b (b y) (b (b y)):= .join (.refl _);rw [hi.jj y hy] at h1;exact .join (.aO h1)
 induction h with
 |refl=>exact .refl _
 |aO _ ih=>exact .aO ih
 | @join w hw ih=>
   have hwr:=hw.cR B6 hu;refine ih.trans ?_;unfold eo
   split
   ·rename_i e;rw [e];exact Bk
   ·split
    ·rename_i e;rw [e];exact Bk.symm hi hy
    ·split
     ·rename_i e;rw [e];exact jQ
     ·split
      ·rename_i e;rw [e];exact jQ.symm hi p1
      ·exact .join (.refl _)
theorem Kr {v:Int} (h:bf mt (eo mt b y) y v):v=y\/v=mt y:=by
 obtain ⟨z1,p1,q1,n1,n2,n3,n4,n5,n6⟩:=Ap hi hy av
 induction h with
 |refl=>exact .inl rfl
 |aO _ ih=>
  rcases ih with e|e
  ·exact .inr (by rw [e])
  ·exact .inl (by rw [e,hi.mm y hy])
 |join _ ih=>
  rcases ih with e|e
  ·rw [e];unfold eo;rw [if_pos rfl];exact .inr rfl
  ·rw [e];unfold eo;rw [if_neg n1,if_pos rfl];exact .inl rfl
theorem J0:mI n mt (eo mt b y)=mI n mt b+1:=by
 obtain ⟨z1,p1,q1,n1,n2,n3,n4,n5,n6⟩:=Ap hi hy av;have B6:=Gt hi hy av;have hR:=uJ B6;have hB:=uJ hi;unfold mI;generalize crN mt (eo mt b y) (4*n) (4*n)=R at*;have nat: ∀x,aw n x->x.toNat<4*n/\(x.toNat:Int)=x:=fun x hx=>by unfold aw at hx;omega
 obtain ⟨yl,ye⟩:=nat y hy;obtain ⟨pl,pe⟩:=nat _ p1;obtain ⟨zl,ze⟩:=nat _ z1;obtain ⟨ql,qe⟩:=nat _ q1;have hyp:bf mt b y (b y):= .join (.refl y);have yX:R.getD y.toNat 0≠R.getD (b y).toNat 0:=fun e=>by
  have:=(hR.iff _ _ yl pl).1 e
  rw [ye,pe] at this;rcases Kr hi hy av this with e1|e1
  ·exact n2 e1
  ·exact n6 e1
 have aY: ∀u v:Nat,u<4*n->v<4*n->bf mt (eo mt b y) u v->R.getD u 0=R.getD v 0:=fun u v hu hv h=>(hR.iff u v hu hv).2 h;have hJ:fa n mt b (dR R y.toNat (b y).toNat):=by
  refine fa.of hi (Au hR.rep yl pl) ?_ (fun x hx=>?_) (fun x hx=>?_)
  ·refine Ez hi hR.rep (fun u v hu hv e=>Ks hi hy av ((hR.iff u v hu hv).1 e) (by unfold aw;omega)) yl pl ?_;rw [ye,pe];exact hyp
  ·have Bo:aw n (x:Int):=by unfold aw;omega
   obtain ⟨ml,me⟩:=nat _ (hi.mr _ Bo);refine oW hR.rep.len ml hx (aY _ _ ml hx ?_);rw [me];have h1:bf mt (eo mt b y) (mt x) (mt (mt x)):= .aO (.refl _);rwa [hi.mm _ Bo] at h1
  ·have Bo:aw n (x:Int):=by unfold aw;omega
   obtain ⟨bl,be⟩:=nat _ (hi.jr _ Bo);have step: ∀w:Int,aw n w-> ∀wl:w.toNat<4*n,R.getD (eo mt b y w).toNat 0=R.getD w.toNat 0:=fun w hw wl=>by
    obtain ⟨cl,ce⟩:=nat _ (B6.jr w hw);obtain ⟨_,we⟩:=nat w hw;refine aY _ _ cl wl ?_;rw [ce,we];have h1:bf mt (eo mt b y) (eo mt b y w) (eo mt b y (eo mt b y w)):= .join (.refl _);rwa [B6.jj w hw] at h1
   have Bk:R.getD (mt y).toNat 0=R.getD y.toNat 0:=by
    have:=step y hy yl
    unfold eo at this;rwa [if_pos rfl] at this
   have jQ:R.getD (b (mt y)).toNat 0=R.getD (b y).toNat 0:=by
    have:=step (b y) p1 pl
    unfold eo at this;rwa [if_neg n2,if_neg n6,if_pos rfl] at this
   have hj:=Ay hR.rep.len yl pl;by_cases e1:(x:Int)=y
   ·have ex:x=y.toNat:=by omega
    rw [e1,ex];exact hj.symm
   ·by_cases e2:(x:Int)=mt y
    ·have ex:x=(mt y).toNat:=by omega
     rw [e2,ex];exact (oW hR.rep.len ql pl jQ).trans (hj.symm.trans (oW hR.rep.len yl zl Bk.symm))
    ·by_cases e3:(x:Int)=b y
     ·have ex:x=(b y).toNat:=by omega
      rw [e3,hi.jj y hy,ex];exact hj
     ·by_cases e4:(x:Int)=b (mt y)
      ·have ex:x=(b (mt y)).toNat:=by omega
       rw [e4,hi.jj _ z1,ex];exact ((oW hR.rep.len zl yl Bk).trans hj).trans (oW hR.rep.len pl ql jQ.symm)
      ·have h1:=step x Bo (by omega);have h2:eo mt b y x=b x:=by unfold eo;rw [if_neg e1,if_neg e2,if_neg e3,if_neg e4]
       rw [h2] at h1
       have:=oW (g:=y.toNat) (h:=(b y).toNat) hR.rep.len bl (show (x:Int).toNat<4*n by omega) h1
       simpa using this
 rw [Qv hR.rep yl pl yX,yy hJ hB]
end
structure ZF (W:Nat) (arc:Nat->Nat) (glue:Nat->Int):Prop where
 ar: ∀x,x<W->arc x<W
 aa: ∀x,x<W->arc (arc x)=x
 af: ∀x,x<W->arc x≠x
 gr: ∀x,x<W->0<=glue x->glue x<W
 gg: ∀x,x<W->0<=glue x->glue (glue x).toNat=x
 gf: ∀x,x<W->glue x≠x
def pthN (arc:Nat->Nat) (glue:Nat->Int):Nat->List Bool->Nat->List Bool×Nat
 |0,sn,y=>(sn,y)
 |f+1,sn,y=>if 0<=glue y then pthN arc glue f ((sn.set y true).set (glue y).toNat true) (arc (glue y).toNat) else (sn,y)
def ll (arc:Nat->Nat) (glue:Nat->Int):Nat->List Bool->Nat->List Bool
 |0,sn,_=>sn
 |f+1,sn,z=>if sn.getD z false then sn else ll arc glue f ((sn.set z true).set (glue z).toNat true) (arc (glue z).toNat)
def endN (W:Nat) (arc:Nat->Nat) (glue:Nat->Int):Nat->List Bool
 |0=>List.replicate W false
 |k+1=>if 0<=glue k then endN W arc glue k else (pthN arc glue (W+1) (endN W arc glue k) (arc k)).1
def bA (W:Nat) (arc:Nat->Nat) (glue:Nat->Int) (ot:List Bool):Nat->List Bool×Nat
 |0=>(ot,0)
 |k+1=>let r:=bA W arc glue ot k
  if glue k<0\/r.1.getD k false=true then r else (ll arc glue (W+1) r.1 k,r.2+1)
inductive jV (arc:Nat->Nat) (glue:Nat->Int):Nat->List Nat->Nat->Prop
 |nil {u:Nat} (h:glue (arc u)<0):jV arc glue u [] (arc u)
 |cons {u e:Nat} {ys:List Nat} (h:0<=glue (arc u)) (k:jV arc glue (glue (arc u)).toNat ys e):jV arc glue u (arc u::ys) e
def cj (glue:Nat->Int) (sn:List Bool) (y:Nat):List Bool:=(sn.set y true).set (glue y).toNat true
theorem yu {arc:Nat->Nat} {glue:Nat->Int} {u e:Nat} {ys:List Nat} (h:jV arc glue u ys e): ∀(f:Nat) (sn:List Bool),ys.length<f->pthN arc glue f sn (arc u)=(ys.foldl (cj glue) sn,e):=by
 induction h with
 |nil h=>
  intro f sn hf;obtain ⟨f,rfl⟩: ∃f',f=f'+1:=⟨f-1,by omega⟩;simp only [pthN,List.foldl_nil];rw [if_neg (by omega)]
 |cons h k ih=>
  intro f sn hf;simp only [zzG] at hf;obtain ⟨f,rfl⟩: ∃f',f=f'+1:=⟨f-1,by omega⟩;simp only [pthN,List.foldl_cons];rw [if_pos h];exact ih f _ (by omega)
theorem ON {sn:List Bool} {y:Nat} (h:sn.getD y false=true):sn.set y true=sn:=by
 apply List.ext_getElem?;intro i;rw [List.getElem?_set];by_cases e:y=i
 ·subst e;rw [if_pos rfl];rw [zzB] at h;cases hq:sn[y]? with
  |none=>rw [hq] at h;simp at h
  |some v=>rw [hq] at h;simp at h;subst h;rw [if_pos (List.getElem?_eq_some_iff.1 hq).1]
 ·rw [if_neg e]
theorem PK {glue:Nat->Int}: ∀(ys:List Nat) (sn:List Bool),(∀y∈ys,sn.getD y false=true/\sn.getD (glue y).toNat false=true)->ys.foldl (cj glue) sn=sn
 |[],_,_=>rfl
 |y::ys,sn,h=>by
  obtain ⟨h1,h2⟩:=h y (zzD ..);rw [List.foldl_cons,show cj glue sn y=sn by unfold cj;rw [ON h1,ON h2]];exact PK ys sn fun z hz=>h z (zzE _ hz)
theorem H9 (l:List Bool) (i j:Nat) (hi:i<l.length):(l.set i true).getD j false=if i=j then true else l.getD j false:=by
 by_cases e:i=j
 ·subst e;rw [if_pos rfl];simp [zzB,hi]
 ·rw [if_neg e];simp [zzB,List.getElem?_set,e]
theorem Ha {glue:Nat->Int} {sn:List Bool} {y:Nat} (hy:y<sn.length) (hz:(glue y).toNat<sn.length) (j:Nat):(cj glue sn y).getD j false=if j=y\/j=(glue y).toNat then true else sn.getD j false:=by
 unfold cj;rw [H9 _ _ _ (by simpa using hz),H9 _ _ _ hy];by_cases e1:(glue y).toNat=j
 ·rw [if_pos e1,if_pos (.inr e1.symm)]
 ·rw [if_neg e1];by_cases e2:y=j
  ·rw [if_pos e2,if_pos (.inl e2.symm)]
  ·rw [if_neg e2,if_neg (by rintro (g|g)<;>omega)]
theorem El (glue:Nat->Int) (sn:List Bool) (y:Nat):(cj glue sn y).length=sn.length:=by simp [cj]
theorem Ig: ∀(l:List Bool) (i:Nat),l.getD i false=false->i<l.length->(l.set i true).count true=l.count true+1
 |[],i,_,h=>by simp at h
 |x::l,0,h,_=>by
  simp only [List.getD_cons_zero] at h;subst h;simp
 |x::l,i+1,h,hl=>by
  have ih:=Ig l i (by simpa using h) (by simpa using hl);simp only [List.set_cons_succ,List.count_cons,ih];omega
theorem Ie {glue:Nat->Int} {sn:List Bool} {y:Nat} (hy:y<sn.length) (hz:(glue y).toNat<sn.length) (av:(glue y).toNat≠y) (h1:sn.getD y false=false) (h2:sn.getD (glue y).toNat false=false):(cj glue sn y).count true=sn.count true+2:=by
 unfold cj;rw [Ig _ _ (by rw [H9 _ _ _ hy,if_neg (fun e=>av e.symm)];exact h2) (by simpa using hz),Ig _ _ h1 hy]
structure CU (n W:Nat) (mt b0:Int->Int) (arc:Nat->Nat) (glue:Nat->Int) (hv:Nat->Int):Prop where
 nod:ZF W arc glue
 inv:Inv2 n mt b0
 inj: ∀x y,x<W->y<W->hv x=hv y->x=y
 cR: ∀x,x<W->aw n (hv x)
 mtg: ∀x,x<W->0<=glue x->mt (hv x)=hv (glue x).toNat
 ba: ∀x,x<W->b0 (hv x)=hv (arc x)
structure iC (n W:Nat) (mt b0:Int->Int) (arc:Nat->Nat) (glue:Nat->Int) (hv:Nat->Int) (b:Int->Int) (sn:List Bool) (c:Nat) (ex dn:Nat->Prop):Prop where
 inv:Inv2 n mt b
 off: ∀h,aw n h->(∀x,x<W->h≠hv x)->b h=b0 h
 sl:sn.length=W
 seen: ∀x,x<W->sn.getD x false=true->0<=glue x/\sn.getD (glue x).toNat false=true/\b (hv x)=hv (glue x).toNat
 org: ∀x,x<W->sn.getD x false=false-> ¬ex x-> ¬dn x->b (hv x)=hv (arc x)
 dne: ∀u,dn u->u<W/\glue u<0/\ ∃ys e,jV arc glue u ys e/\ys.length<=W/\dn e/\b (hv u)=hv e/\ ∀y∈ys,sn.getD y false=true/\sn.getD (glue y).toNat false=true
 aN:2*mI n mt b+2*c=2*mI n mt b0+sn.count true
section
variable {n W:Nat} {mt b0:Int->Int} {arc:Nat->Nat} {glue:Nat->Int} {hv:Nat->Int} (E:CU n W mt b0 arc glue hv)
include E
theorem CU.gW {x:Nat} (hx:x<W) (hg:0<=glue x):(glue x).toNat<W/\((glue x).toNat:Int)=glue x/\glue (glue x).toNat=x/\(glue x).toNat≠x:=by
 have h1:=E.nod.gr x hx hg;have h2:=E.nod.gf x hx;exact ⟨by omega,by omega,E.nod.gg x hx hg,by omega⟩
theorem iC.step {b:Int->Int} {sn:List Bool} {c x y:Nat} {dn:Nat->Prop} (h:iC n W mt b0 arc glue hv b sn c (fun u=>u=x\/u=y) dn) (hx:x<W) (hy:y<W) (nA:b (hv y)=hv x) (hg:0<=glue y) (vA:sn.getD y false=false) (EX:x≠(glue y).toNat) (KY:sn.getD x false=false) (Fh: ¬dn x):
  iC n W mt b0 arc glue hv (eo mt b (hv y)) (cj glue sn y) c (fun u=>u=x\/u=arc (glue y).toNat) dn/\eo mt b (hv y) (hv x)=hv (arc (glue y).toNat)/\arc (glue y).toNat≠x/\eo mt b (hv y) (hv (arc (glue y).toNat))=hv x:=by
 obtain ⟨zW,ze,zg,zy⟩:=E.gW hy hg;have BQ:=E.mtg y hy hg;have X5:b (hv x)=hv y:=by have:=congrArg b nA;rw [h.inv.jj _ (E.cR y hy)] at this;exact this.symm
 have Bq:x≠y:=fun e=>h.inv.jf _ (E.cR y hy) (by rw [nA,e]);have j6:sn.getD (glue y).toNat false=false:=by
  cases hz:sn.getD (glue y).toNat false with
  |false=>rfl
  |true=>
   have:=(h.seen _ zW hz).2.1
   rw [zg] at this;simp only [zzC] at this;rw [this] at vA;cases vA
 have SF: ¬dn (glue y).toNat:=fun hd=>by have:=(h.dne _ hd).2.1;rw [zg] at this;omega
 have zb:b (hv (glue y).toNat)=hv (arc (glue y).toNat):=h.org _ zW j6 (by rintro (e|e)<;>omega) SF;have aW:=E.nod.ar _ zW;have av:b (hv y)≠mt (hv y):=by rw [nA,BQ];intro e;exact EX (E.inj _ _ hx zW e)
 obtain ⟨f1,f2,f3,f4,f5,f6,f7,f8,f9⟩:=Ap h.inv (E.cR y hy) av;rw [BQ,zb,nA] at f8;rw [BQ,zb] at f7;have pJ:arc (glue y).toNat≠x:=fun e=>f8 (by rw [e]);have To:arc (glue y).toNat≠y:=fun e=>f7 (by rw [e]);have Mc:arc (glue y).toNat≠(glue y).toNat:=E.nod.af _ zW;have inj:=fun u v hu mL=>fun e=>E.inj u v hu mL e
 have val: ∀u,u<W->eo mt b (hv y) (hv u)=if u=y then hv (glue y).toNat else if u=(glue y).toNat then hv y else if u=x then hv (arc (glue y).toNat) else if u=arc (glue y).toNat then hv x else b (hv u):=fun u hu=>by
  unfold eo;rw [BQ,nA,zb];by_cases e1:u=y
  ·rw [if_pos e1,if_pos (by rw [e1])]
  ·rw [if_neg e1,if_neg (fun e=>e1 (E.inj _ _ hu hy e))];by_cases e2:u=(glue y).toNat
   ·rw [if_pos e2,if_pos (by rw [←e2])]
   ·rw [if_neg e2,if_neg (fun e=>e2 (E.inj _ _ hu zW e))];by_cases e3:u=x
    ·rw [if_pos e3,if_pos (by rw [e3])]
    ·rw [if_neg e3,if_neg (fun e=>e3 (E.inj _ _ hu hx e))];by_cases e4:u=arc (glue y).toNat
     ·rw [if_pos e4,if_pos (by rw [←e4])]
     ·rw [if_neg e4,if_neg (fun e=>e4 (E.inj _ _ hu aW e))]
 have yl:y<sn.length:=by rw [h.sl];exact hy
 have zl:(glue y).toNat<sn.length:=by rw [h.sl];exact zW
 have sg:=fun j=>Ha (glue:=glue) yl zl j;have has:sn.getD (arc (glue y).toNat) false=false:=by
  cases hq:sn.getD (arc (glue y).toNat) false with
  |false=>rfl
  |true=>
   obtain ⟨g1,_,g3⟩:=h.seen _ aW hq;have h1:b (hv (arc (glue y).toNat))=hv (glue y).toNat:=by rw [←zb,h.inv.jj _ (E.cR _ zW)]
   rw [g3] at h1;have h2:=E.inj _ _ (E.gW aW g1).1 zW h1;have h3:=E.nod.gg _ aW g1;rw [h2,zg] at h3;exact absurd (show y=arc (glue y).toNat by omega).symm To
 refine ⟨⟨Gt h.inv (E.cR y hy) av,fun q hq hn=>?_,by rw [El];exact h.sl,fun u hu hs=>?_,fun u hu hs hex hd=>?_,fun u hd=>?_,?_⟩,?_,pJ,?_⟩
 ·have:eo mt b (hv y) q=b q:=by
   unfold eo;rw [BQ,nA,zb,if_neg (hn y hy),if_neg (hn _ zW),if_neg (hn x hx),if_neg (hn _ aW)]
  rw [this];exact h.off q hq hn
 ·rw [sg] at hs;rw [val u hu];by_cases e1:u=y
  ·rw [if_pos e1,e1];exact ⟨hg,by rw [sg,if_pos (.inr rfl)],rfl⟩
  ·by_cases e2:u=(glue y).toNat
   ·rw [if_neg e1,if_pos e2,e2,zg];exact ⟨by omega,by rw [sg,if_pos (.inl (by omega))],by simp⟩
   ·rw [if_neg (by rintro (g|g)<;>omega)] at hs;obtain ⟨g1,g2,g3⟩:=h.seen u hu hs;refine ⟨g1,by rw [sg];split<;>first|rfl|exact g2,?_⟩;rw [if_neg e1,if_neg e2,if_neg (fun e=>by rw [e,KY] at hs;cases hs),if_neg (fun e=>by rw [e,has] at hs;cases hs)];exact g3
 ·rw [sg] at hs;by_cases e1:u=y\/u=(glue y).toNat
  ·rw [if_pos e1] at hs;cases hs
  ·rw [if_neg e1] at hs;rw [val u hu,if_neg (fun e=>e1 (.inl e)),if_neg (fun e=>e1 (.inr e)),if_neg (fun e=>hex (.inl e)),if_neg (fun e=>hex (.inr e))];exact h.org u hu hs (by rintro (e|e);exact hex (.inl e);exact e1 (.inl e)) hd
 ·obtain ⟨g1,g2,ys,e,g3,g4,g5,g6,g7⟩:=h.dne u hd;refine ⟨g1,g2,ys,e,g3,g4,g5,?_,fun w hw=>?_⟩
  ·have k1:u≠y:=fun e=>by rw [e] at g2;omega
   have k2:u≠(glue y).toNat:=fun e=>by rw [e,zg] at g2;omega
   have k3:u≠x:=fun e=>Fh (e▸hd);have k4:u≠arc (glue y).toNat:=fun e2=>by
    have h1:b (hv (arc (glue y).toNat))=hv (glue y).toNat:=by rw [←zb,h.inv.jj _ (E.cR _ zW)]
    rw [←e2,g6] at h1
    have:=E.inj _ _ (h.dne e g5).1 zW h1
    exact SF (this▸g5)
   rw [val u g1,if_neg k1,if_neg k2,if_neg k3,if_neg k4];exact g6
  ·obtain ⟨q1,q2⟩:=g7 w hw;exact ⟨by rw [sg];split<;>first|rfl|exact q1,by rw [sg];split<;>first|rfl|exact q2⟩
 ·have h1:=J0 h.inv (E.cR y hy) av;have h2:=Ie yl zl zy vA j6
  have:=h.aN
  omega
 ·rw [val x hx,if_neg Bq,if_neg EX,if_pos rfl]
 ·rw [val _ aW,if_neg To,if_neg Mc,if_neg pJ,if_pos rfl]
end
inductive ti (arc:Nat->Nat) (glue:Nat->Int):List Bool->Nat->List Nat->Prop
 |stop {sn:List Bool} {z:Nat} (h:sn.getD z false=true):ti arc glue sn z []
 |step {sn:List Bool} {z:Nat} {zs:List Nat} (h:sn.getD z false=false) (hg:0<=glue z) (k:ti arc glue (cj glue sn z) (arc (glue z).toNat) zs):ti arc glue sn z (z::zs)
theorem OM {arc:Nat->Nat} {glue:Nat->Int} {sn:List Bool} {z:Nat} {zs:List Nat} (h:ti arc glue sn z zs): ∀f:Nat,zs.length<f->ll arc glue f sn z=zs.foldl (cj glue) sn:=by
 induction h with
 |stop h=>
  intro f hf;obtain ⟨f,rfl⟩: ∃f',f=f'+1:=⟨f-1,by omega⟩;simp only [ll,List.foldl_nil,h,if_true]
 |step h hg k ih=>
  intro f hf;simp only [zzG] at hf;obtain ⟨f,rfl⟩: ∃f',f=f'+1:=⟨f-1,by omega⟩;simp only [ll,List.foldl_cons,h,Bool.false_eq_true,if_false];exact ih f (by omega)
def txN (arc:Nat->Nat) (glue index:Nat->Int) (W E:Nat):Nat->List Int
 |0=>List.replicate E 0
 |k+1=>if index k<0 then txN arc glue index W E k else (txN arc glue index W E k).set (index k).toNat (97+index (pthN arc glue (W+1) [] (arc k)).2)
theorem wv (arc:Nat->Nat) (glue index:Nat->Int) (W E:Nat): ∀k,(txN arc glue index W E k).length=E
 |0=>by simp [txN]
 |k+1=>by
  simp only [txN]
  split
  ·exact wv arc glue index W E k
  ·rw [zzL];exact wv arc glue index W E k
theorem OL (arc:Nat->Nat) (glue:Nat->Int): ∀(f:Nat) (sn:List Bool) (y:Nat),(pthN arc glue f sn y).1.length=sn.length
 |0,_,_=>rfl
 |f+1,sn,y=>by
  simp only [pthN]
  split
  ·rw [OL arc glue f];simp
  ·rfl
theorem Ed (W:Nat) (arc:Nat->Nat) (glue:Nat->Int): ∀k,(endN W arc glue k).length=W
 |0=>by simp [endN]
 |k+1=>by
  simp only [endN]
  split
  ·exact Ed W arc glue k
  ·rw [OL];exact Ed W arc glue k
theorem OK (arc:Nat->Nat) (glue:Nat->Int): ∀(f:Nat) (sn:List Bool) (z:Nat),(ll arc glue f sn z).length=sn.length
 |0,_,_=>rfl
 |f+1,sn,z=>by
  simp only [ll]
  split
  ·rfl
  ·rw [OK arc glue f];simp
theorem Ec (W:Nat) (arc:Nat->Nat) (glue:Nat->Int) (ot:List Bool): ∀k,(bA W arc glue ot k).1.length=ot.length
 |0=>rfl
 |k+1=>by
  simp only [bA]
  split
  ·exact Ec W arc glue ot k
  ·rw [OK];exact Ec W arc glue ot k
theorem Gs (W:Nat) (arc:Nat->Nat) (glue:Nat->Int) (ot:List Bool): ∀k,(bA W arc glue ot k).2<=k
 |0=>zzA _
 |k+1=>by
  have:=Gs W arc glue ot k
  simp only [bA]
  split<;>omega
end Go.Proofs.YtmdjdekgakidhaaGreatDoor
