/- Layer 1: contracts of the program's functions on diagrams. -/
import Derived.Test.YtmdjdekgakidhaaGreatDoorTy
import Derived.Test.YtmdjdekgakidhaaGreatDoorPl
import Derived.Test.YtmdjdekgakidhaaGreatDoorRows
import Derived.ProofKit
import Derived.LaidMore
import Derived.OpenShut
import Derived.Stop.Joined
import Derived.ReadAgain
import Derived.Lib.SmallJoins
import Derived.ChangeSlices
import Derived.Test.YtmdjdekgakidhaaGreatDoorTie
import Derived.Test.YtmdjdekgakidhaaGreatDoorCards
import Derived.SevenTiedAt
set_option linter.unusedSimpArgs false
set_option linter.unusedVariables false
namespace Go.Proofs.YtmdjdekgakidhaaGreatDoor
open Go Go.RowKit
set_option maxRecDepth 100000
abbrev roI (l:List Int):AV:= .ro 1 l.length (.ints l)
abbrev roB (l:List Bool):AV:= .ro 1 l.length (.bools l)
abbrev dgA (s m:List Int) (L:Int):AV:= .agg [roI s,roI m,I L]
attribute [go_sem] roI roB dgA
def jZ (l:List Int):AV:= .ro 1 l.length (.ints l)
abbrev kO (ls:List (List Int)):AV:= .ro 1 ls.length (.lst (ls.map jZ))
theorem y13 (H:Hp) (l:List Int):s3 H (jZ l)=true:=rfl
theorem ye3 (H:Hp) (ls:List (List Int)):ls.all (s3 H∘jZ)=true:=by simp [y13]
theorem yaal (n:Nat):cutV n∘jZ=jZ:=by funext l;rfl
theorem y6l (H:Hp) (n:Nat):snap H (n+1)∘jZ=jZ:=by funext l;rfl
theorem sP (H:Hp) (n:Nat) (ls:List (List Int)): ∀x∈ls.map jZ,c9 H (n+1) x:=fun x hx=>by
 obtain ⟨l,_,rfl⟩:=List.mem_map.1 hx;trivial
theorem Pe (ls:List (List Int)) (i:Nat) (h:i<ls.length):(ls.map jZ).getD i .any=roI (ls.getD i []):=by simp [h,jZ]
attribute [go_sem] y13 ye3 yaal y6l
theorem zU {a b:Int} (h:0<=a):a.tmod b=a % b:=Int.tmod_eq_emod_of_nonneg h
theorem sG {a b:Int} (h:0<=a):a.tdiv b=a/b:=Int.tdiv_eq_ediv_of_nonneg h
theorem Km (h b:Int) (h0:0<=h) (h1:h<=100000):Fn Tryz.prog 116 [I h,I b] (I (h-h % 4+(h % 4+b.tmod 4+4)% 4)):=by
 have e1:h.tmod 4=h % 4:=Int.tmod_eq_emod_of_nonneg h0;have e2: -4<b.tmod 4/\b.tmod 4<4:=⟨Int.lt_tmod_of_pos b (by decide),Int.tmod_lt_of_pos b (by decide)⟩;have e3:(h % 4+b.tmod 4+4).tmod 4=(h % 4+b.tmod 4+4)% 4:=Int.tmod_eq_emod_of_nonneg (by omega);refine Fn.intro [.tmp 4] Tryz.func116 rfl rfl (by decide) (by simp [Tryz.ntmps116]) ?_;rw [Tryz.ntmps116]
 repeat' (first|omega|(try apply ag);simp only [go_sem,sevalprocAttr]|apply ae<;>(intro h_;(try simp only [h_]);revert h_)|apply And.intro|with_reducible intro h_|trivial|simp only [go_sem,ah];omega)
 all_goals try simp only [e1,e3]
 all_goals try omega
theorem Ij (s m:List Int) (L h:Int) (h0:0<=h) (h1:h<4*s.length) (hs:s.length<=1000):Fn Tryz.prog 75 [dgA s m L,I h] (.bool (aB s h)):=by
 have e1:h.tmod 4=h % 4:=Int.tmod_eq_emod_of_nonneg h0;have e2:h.tdiv 4=h/4:=Int.tdiv_eq_ediv_of_nonneg h0;refine Fn.intro [.tmp 4] Tryz.func75 rfl rfl (by decide) (by simp [Tryz.ntmps75]) ?_;rw [Tryz.ntmps75]
 repeat' (first|omega|(try apply ag);simp only [go_sem,sevalprocAttr]|apply ae<;>(intro h_;(try simp only [h_]);revert h_)|apply And.intro|with_reducible intro h_|trivial|simp only [go_sem,ah];omega)
 all_goals try simp only [e1,e2] at*
 all_goals try omega
 all_goals simp_all [aB]
theorem VX (s m:List Int) (L:Int) (hs:s.length<=1000) (hm:iN m s.length):Fn Tryz.prog 115 [dgA s m L] (.tup [roI (eX m s.length).1,I (eX m s.length).2]):=by
 refine Fn.intro [.tmp 2, .tmp 3] Tryz.func115 rfl rfl (by decide) (by simp [Tryz.ntmps115]) ?_;rw [Tryz.ntmps115]
 repeat' (first|omega|(try apply ag);simp only [go_sem,sevalprocAttr]|apply ae<;>(intro h_;(try simp only [h_]);revert h_)|apply And.intro|with_reducible intro h_|trivial|simp only [go_sem,ah];omega)
 refine aR.intro (fun n fr H=> ∃k:Nat,k<=s.length/\n=s.length-k/\fr=[(18,I k),(17,I s.length),(4, .sl 1 1 0 s.length),(1, .ptr 0 0)]/\H=[(1, .cells 3 (.ints (List.replicate k (-1)++List.replicate (s.length-k) 0))),(0, .cells 24 (.lst [roI s,roI m,I L]))]) ?_ ?_
 ·refine ⟨_,_,_,?_,0,by omega,rfl,rfl,rfl⟩;refine Wk.sub ?_ ?_<;>simp only [go_sem,sevalprocAttr];simp
 rintro n fr H ⟨k,hk,rfl,rfl,rfl⟩
 repeat' (first|omega|(try apply ag);simp only [go_sem,sevalprocAttr]|apply ae<;>(intro h_;(try simp only [h_]);revert h_)|apply And.intro|with_reducible intro h_|trivial|simp only [go_sem,ah];omega)
 ·refine ⟨_,_,_,?_,?_,⟨k+1,by omega,rfl,rfl,rfl⟩⟩
  ·omega
  ·refine Wk.sub ?_ ?_<;>simp only [go_sem,sevalprocAttr];exact V0 _ _ _ _ (by omega)
 obtain rfl:k=s.length:=by omega
 refine aR.intro (fun n fr H=> ∃k:Nat,k<=s.length/\n=s.length-k/\fr=[(27,I k),(26,I s.length),(6,I (bG m s.length k).2),(4, .sl 1 1 0 s.length),(1, .ptr 0 0)]/\H=[(1, .cells 3 (.ints (bG m s.length k).1)),(0, .cells 24 (.lst [roI s,roI m,I L]))]) ?_ ?_
 ·refine ⟨_,_,_,?_,0,by omega,rfl,rfl,rfl⟩;refine Wk.sub ?_ ?_<;>simp only [go_sem,sevalprocAttr]
  ·simp [bG]
  ·simp [bG]
 rintro n fr H ⟨k,hk,rfl,rfl,rfl⟩;obtain ⟨sY,Ls,Yx⟩:=zw hm k hk;have iI:=sY.1
 repeat' (first|omega|(try apply ag);simp only [go_sem,sevalprocAttr]|apply ae<;>(intro h_;(try simp only [h_]);revert h_)|apply And.intro|with_reducible intro h_|trivial|simp only [go_sem,ah];omega)
 ·refine ⟨_,_,_,?_,?_,⟨k+1,by omega,rfl,rfl,rfl⟩⟩
  ·omega
  ·have e:bG m s.length (k+1)=bG m s.length k:=by simp only [bG,yQ];rw [if_pos (by assumption)]
   refine Wk.sub ?_ ?_<;>(simp only [go_sem,sevalprocAttr];rw [e])
 ·have im:(bG m s.length k).1.getD k 0<0:=by assumption
  have s8:k<s.length:=by omega
  have eN:bG m s.length (k+1)=(bfs m (bG m s.length k).2 (2*s.length+1) ((bG m s.length k).1.set k (bG m s.length k).2) [(k:Int)],(bG m s.length k).2+1):=by simp only [bG,yQ];rw [if_neg (by omega)]
  have iK:=Eg (i:=k) (by omega) im Ls;have iJ:=GR (bG m s.length k).1;have jt:qo s.length (bG m s.length k).2 ((bG m s.length k).1.set k (bG m s.length k).2):=⟨by simp [iI],fun i hi=>by
   by_cases e:k=i
   ·subst e;rw [mh (by omega)];omega
   ·rw [lN e];exact sY.2 i hi⟩
  generalize (bG m s.length k).1.set k (bG m s.length k).2=vw at*
  refine aR.intro (fun f fr H=> ∃(part q cq:List Int) (off:Nat),2*fU part+q.length<=f/\f<=2*s.length+1/\qo s.length (bG m s.length k).2 part/\vv s.length q/\off+q.length=cq.length/\cq.drop off=q/\bfs m (bG m s.length k).2 f part q=bfs m (bG m s.length k).2 (2*s.length+1) vw [(k:Int)]/\
   fr=[(8, .sl 1 2 off q.length),(27,I k),(26,I s.length),(6,I (bG m s.length k).2),(4, .sl 1 1 0 s.length),(1, .ptr 0 0)]/\H=[(2, .cells 3 (.ints cq)),(1, .cells 3 (.ints part)),(0, .cells 24 (.lst [roI s,roI m,I L]))]) ?_ ?_
  ·refine ⟨_,_,_,?_,vw,[(k:Int)],[(k:Int)],0,?_,zzA _,jt,fun x hx=>by simp at hx;omega,rfl,rfl,rfl,rfl,rfl⟩
   ·refine Wk.sub ?_ ?_<;>simp only [go_sem,sevalprocAttr]
   ·simp only [List.length_singleton];omega
  rintro f fr H ⟨part,q,cq,off,hf,Tf,tX,SY,Yz,Ti,L6,rfl,rfl⟩;have Yt:=tX.1
  repeat' (first|omega|(try apply ag);simp only [go_sem,sevalprocAttr]|apply ae<;>(intro h_;(try simp only [h_]);revert h_)|apply And.intro|with_reducible intro h_|trivial|simp only [go_sem,ah];omega)
  ·--the four neighbours
   have oD:0<q.length:=by omega
   obtain ⟨c,q',rfl⟩: ∃c q',q=c::q':=by
    cases q with
    |nil=>simp at oD
    |cons c q'=>exact ⟨c,q',rfl⟩
   have Fk:cq.getD off 0=c:=by
    have:=congrArg (fun l=>l.getD 0 0) Ti
    simpa using this
   have LU:cq.drop (off+1)=q':=by
    have:=congrArg List.tail Ti
    simpa using this
   have za:=SY c (by simp);have Lk:vv s.length q':=fun x hx=>SY x (by simp [hx]);simp only [zzG] at hf Yz;rw [Fk]
   refine aR.intro (fun j fr H=> ∃(i:Nat) (cq mE:_),j=4-i/\i<=4/\mE+(lb4 m c (bG m s.length k).2 (part,q') i).2.length=(cq:List Int).length/\cq.drop mE=(lb4 m c (bG m s.length k).2 (part,q') i).2/\
    fr=[(49,I i),(8, .sl 1 2 mE (lb4 m c (bG m s.length k).2 (part,q') i).2.length),(9,I c),(27,I k),(26,I s.length),(6,I (bG m s.length k).2),(4, .sl 1 1 0 s.length),(1, .ptr 0 0)]/\H=[(2, .cells 3 (.ints cq)),(1, .cells 3 (.ints (lb4 m c (bG m s.length k).2 (part,q') i).1)),(0, .cells 24 (.lst [roI s,roI m,I L]))]) ?_ ?_
   ·refine ⟨_,_,_,?_,0,cq,off+1,rfl,by omega,by simp only [lb4];omega,by simp only [lb4];exact LU,rfl,rfl⟩;refine Wk.sub ?_ ?_<;>simp only [go_sem,sevalprocAttr]
    ·simp [lb4]
    ·simp [lb4]
   rintro j fr H ⟨i,cq,mE,rfl,hi,cI,qv,rfl,rfl⟩;obtain ⟨g1,g2,g3,g5⟩:=Dr hm za Ls (st:=(part,q')) tX Lk i hi;have g1l:=g1.1;simp only at g3 g5;by_cases hi4:i<4
   ·have l5:=hm.2 (4*c+i).toNat (by omega);have fv:=hm.1;have e2:(m.getD (4*c+i).toNat 0).tdiv 4=m.getD (4*c+i).toNat 0/4:=sG l5.1;have EZ:0<=m.getD (4*c+i).toNat 0/4/\m.getD (4*c+i).toNat 0/4<s.length:=by omega
    have eL:lb4 m c (bG m s.length k).2 (part,q') (i+1)=j5 m c (bG m s.length k).2 i (lb4 m c (bG m s.length k).2 (part,q') i):=rfl
    repeat' (first|omega|(try apply ag);simp only [go_sem,sevalprocAttr,e2]|apply ae<;>(intro h_;(try simp only [h_]);revert h_)|apply And.intro|with_reducible intro h_|trivial|simp only [go_sem,ah];omega)
    ·have Lv:(lb4 m c (bG m s.length k).2 (part,q') i).1.getD (m.getD (4*c+i).toNat 0/4).toNat 0<0:=by assumption
     have eB:lb4 m c (bG m s.length k).2 (part,q') (i+1)=((lb4 m c (bG m s.length k).2 (part,q') i).1.set (m.getD (4*c+i).toNat 0/4).toNat (bG m s.length k).2,(lb4 m c (bG m s.length k).2 (part,q') i).2++[m.getD (4*c+i).toNat 0/4]):=by
      rw [eL];unfold j5;simp only;rw [if_pos Lv]
     refine ⟨_,_,_,?_,?_,⟨i+1,cq.drop mE++[m.getD (4*c+i).toNat 0/4],0,rfl,by omega,?_,?_,rfl,rfl⟩⟩
     ·omega
     ·refine Wk.sub ?_ ?_<;>(rw [eB];simp only [go_sem,sevalprocAttr])
     ·rw [eB,qv];simp
     ·rw [eB,qv];simp
    ·have Lv:0<=(lb4 m c (bG m s.length k).2 (part,q') i).1.getD (m.getD (4*c+i).toNat 0/4).toNat 0:=by assumption
     have eB:lb4 m c (bG m s.length k).2 (part,q') (i+1)=lb4 m c (bG m s.length k).2 (part,q') i:=by
      rw [eL];unfold j5;simp only;rw [if_neg (by omega)]
     refine ⟨_,_,_,?_,?_,⟨i+1,cq,mE,rfl,by omega,?_,?_,rfl,rfl⟩⟩
     ·omega
     ·refine Wk.sub ?_ ?_<;>(rw [eB];simp only [go_sem,sevalprocAttr])
     ·rw [eB];exact cI
     ·rw [eB];exact qv
   ·obtain rfl:i=4:=by omega
    repeat' (first|omega|(try apply ag);simp only [go_sem,sevalprocAttr]|apply ae<;>(intro h_;(try simp only [h_]);revert h_)|apply And.intro|with_reducible intro h_|trivial|simp only [go_sem,ah];omega)
    obtain ⟨f',rfl⟩: ∃f',f=f'+1:=⟨f-1,by omega⟩;refine ⟨f',_,_,?_,?_,⟨(lb4 m c (bG m s.length k).2 (part,q') 4).1,(lb4 m c (bG m s.length k).2 (part,q') 4).2,cq,mE,?_,?_,g1,g2,cI,qv,?_,rfl,rfl⟩⟩
    ·omega
    ·refine Wk.sub ?_ ?_<;>simp only [go_sem,sevalprocAttr]
    ·omega
    ·omega
    ·rw [←L6];rfl
  ·obtain rfl:q=[]:=List.eq_nil_of_length_eq_zero (by omega);have eP:bfs m (bG m s.length k).2 f part []=part:=by unfold bfs;rfl
   rw [eP] at L6;refine ⟨_,_,_,?_,?_,⟨k+1,by omega,rfl,rfl,rfl⟩⟩
   ·omega
   ·refine Wk.sub ?_ ?_<;>(rw [eN];simp only [go_sem,sevalprocAttr]);exact L6
 ·obtain rfl:k=s.length:=by omega
  exact iI.symm
 ·obtain rfl:k=s.length:=by omega
  exact List.take_of_length_le (by omega)
 ·obtain rfl:k=s.length:=by omega
  rfl
end Go.Proofs.YtmdjdekgakidhaaGreatDoor
namespace Go.Proofs.YtmdjdekgakidhaaGreatDoor
set_option maxRecDepth 100000
open Go Go.Joins Go.ChangeShapes Go.WideShapes Go.ChangeAt Go.WideMaps Go.WideElems Go.RowKit
theorem kids:Kids Tryz.prog (· <Tryz.prog.types.size):=kids_rows (by kernel_rfl) (by kernel_rfl)
theorem full: ∀t e,t<Tryz.prog.types.size->Tryz.prog.underlying t=some (.slice e)->0<Tryz.prog.cellsOf e:=slices_full_of Tryz.prog (by kernel_rfl)
section
variable {H:Type} {enc:TypeId×Value->H}
theorem QL {P:Program} {W W':World} {base:Nat} {sp:Nat->Bool} {held:Bool}: ∀{ts:List TypeId} {vs:List Value} {ds:List (DataW H)} {ps:List MemPlace},DataW.TrodAll enc P W base sp held ts vs ds ps->(∀p∈ps,W.sameAt W' p)->DataW.TrodAll enc P W' base sp held ts vs ds ps
 |[],[],[],_,h,_=>h
 |_::_,_::_,_::_,_,⟨p,q,⟨n,h1⟩,h2,e⟩,hs=>⟨p,q,⟨n,DataW.trod_carry n _ _ _ h1 (fun x hx=>hs x (by rw [e];exact List.mem_append_left _ hx))⟩,QL h2 (fun x hx=>hs x (by rw [e];exact List.mem_append_right _ hx)),e⟩
theorem y6n {f:Func} {s:ChangeSpec} {apart fresh handsOn again:Bool} {W W':World} {args:Array Value} {ds gs:List (DataW H)} {before:List MemPlace}
  (hW:DataW.Whole enc Tryz.prog f.params.toList s.vars apart W args.toList ds gs before) (hv:s.vars=[]) (hT: ∀t∈f.params.toList,t<Tryz.prog.types.size)
  (hr:f.resultTypes= #[4]) (hs:s.fn H (ds++gs)={results:=[.lit (.bool true)],args:=ds}) (hb:Below W.heap.size W W'):
  s.post enc Tryz.prog f apart fresh handsOn again W args (.bool true) W':=by
 have hold: ∀p∈before,(fun b=>decide (b<W.heap.size)) p.block=true:=fun p hp=>by simpa using hW.lt p hp
 have ax: ∀p∈before,p.block<W.heap.size:=fun p hp=>hW.lt p hp;obtain ⟨p,q,hA,hV,jQ,hz,hn⟩:=hW;have Y4:DataW.Whole enc Tryz.prog f.params.toList s.vars apart W args.toList ds gs before:=⟨p,q,hA,hV,jQ,hz,hn⟩;rw [hv] at hV;obtain ⟨rfl,rfl⟩:=trodVars_none hV;rw [List.append_nil] at jQ;subst jQ
 have oK: ∀sp:Nat->Bool,(∀x∈before,sp x.block=true)->DataW.TrodAll enc Tryz.prog W' 0 sp true f.params.toList args.toList ds before:=fun sp eI=>
  QL (DataW.TrodAll.respare kids full hT hA eI) fun x hx=>hb.same (ax x hx)
 have mT: ∀(b:Nat) (sp:Nat->Bool) (hd:Bool),DataW.TrodAll enc Tryz.prog W' b sp hd f.resultTypes.toList ((Value.bool true).resultList f.resultTypes.size) [.lit (.bool true)] []:=fun b sp hd=>by
  rw [hr];exact trodAll_mk1 (shut_bool Tryz.underlying4 _)
 refine ⟨ds,[],before,[],before,[],Y4,?_,?_,?_,hb.frame _,fun _=>?_⟩
 ·rw [hs];exact mT _ _ _
 ·rw [hs];exact oK _ hold
 ·rw [hv,hs];rfl
 ·refine ⟨?_,[.lit (.bool true)]++ds,[],[]++before,⟨[]++before,[],trodAll_append (oK _ (fun _ _=>rfl)) (mT _ _ _),?_,by simp,?_,?_⟩,?_⟩
  ·exact ok_one hr (by rfl) (okWide_bool_mk Tryz.underlying4 _)
  ·rw [hv];rfl
  ·intro b off hp;have nB:MemPlace.cell b off∈before:=by simpa using hp
   rw [hb.frozen (ax _ nB)];exact hz b off nB
  ·intro ha
   have:=hn ha
   simpa using this
  ·intro p hp _;simpa using hp
theorem NO {w:World} {fuel:Nat} {v:Value} {x:DataW H×List MemPlace} (h:DataW.trod enc Tryz.prog w 0 (fun _=>true) true fuel 22 [v]=some x): ∃s:List Int,VR w (fun _=>False) ρ0 (fun _=>False) v (roI s):=by
 rcases open_ints Tryz.underlying22 Tryz.underlying3 (by kernel_rfl) h with ⟨hc,_⟩|⟨a,len,cap,zs,hc,_,hl,_,hz,_,eO,_⟩
 ·simp only [List.cons.injEq,and_true] at hc;subst hc;exact ⟨[], .ro 1 0 (.ints []) none 0 (fun _=>undef) rfl (zzA _) (by decide) (fun h=>absurd h (by decide)) (fun j hj=>by simp [Cs.len] at hj)⟩
 ·simp only [List.cons.injEq,and_true] at hc;subst hc;simp only [if_true] at hz;refine ⟨zs.take len,?_⟩;have e:(zs.take len).length=len:=by rw [List.length_take];omega
  unfold roI;rw [e];refine .ro 1 len (.ints (zs.take len)) (some a) cap (fun j=> .int .i64 (zs.getD j 0)) (by simp [Cs.len];omega) hl (by decide) (fun h0=>⟨a,rfl,?_,fun h=>h,fun j hj=>?_⟩) fun j hj=>?_
  ·have h1:=eO 0 (by omega);unfold World.cell? at h1;rw [show (a.add 0)=a from rfl] at h1
   split at h1
   ·rename_i hb;exact (Array.getElem?_eq_some_iff.1 hb).1
   ·cases h1
  ·exact eO j (by simp [Cs.len] at hj;omega)
  ·have eJ:j<len:=by simp [Cs.len] at hj;omega
   simp only [Cs.get];rw [show (zs.take len).getD j 0=zs.getD j 0 by simp [zzB,List.getElem?_take,eJ]];exact .int _ _
theorem dg_VR {w:World} {r:Reach} {b0:Nat} {v:Value} {d:DataW H} {p:List MemPlace} (hv:Value.okWide Tryz.prog w r b0 24 v) (h:DataW.Trod enc Tryz.prog w 0 (fun _=>true) true 24 v d p):
  ∃(s m:List Int) (L:Int),VR w (fun _=>False) ρ0 (fun _=>False) v (dgA s m L):=by
 obtain ⟨v0,v1,v2,y0,y1,y2,n,rfl,_,_,h0,h1,h2⟩:=open_agg3 Tryz.underlying24 (by kernel_rfl) (by kernel_rfl) hv h;obtain ⟨s,hs⟩:=NO h0;obtain ⟨m,hm⟩:=NO h1;obtain ⟨L,e,_⟩:=DataW.trod_int Tryz.underlying3 h2;simp only [List.cons.injEq,and_true] at e;subst e;refine ⟨s,m,L, .agg [v0,v1, .int .i64 L] [roI s,roI m,I L] rfl fun i u x hu hx=>?_⟩
 match i,hu,hx with
 |0,hu,hx=>simp at hu hx;subst hu hx;exact hs
 |1,hu,hx=>simp at hu hx;subst hu hx;exact hm
 |2,hu,hx=>simp at hu hx;subst hu hx;exact .int _ _
end
theorem own:ownKnob Tryz.prog.godebug=none:=by kernel_rfl
def yov:List (String×DataW Unit):=[("math/bits.deBruijn32tab",Rows.laid_math_bits_deBruijn32tab),("math/bits.deBruijn64tab",Rows.laid_math_bits_deBruijn64tab),("internal/strconv.uint64pow10",Rows.laid_internal_strconv_uint64pow10)]
theorem Mz:Tryz.prog.globalNamed "internal/strconv.uint64pow10" =some 0:=by kernel_rfl
theorem KE:(Tryz.prog.globals[0]?).map (·.type)=some 193:=by kernel_rfl
theorem ytq {W:World} (h:laidMetH Tryz.prog yov W):Good W:=by
 rw [MakeChecks.laidMetH_plain _ _ _ (by kernel_rfl)] at h;obtain ⟨ps,⟨g0,t0,cs0,f0,p0,q0,uk,rb,hv0,Fj,⟨g1,t1,cs1,f1,p1,q1,vQ,ht1,nX,y9,⟨g2,t2,cs2,f2,p2,q2,oG,SV,Yc,xd,_,_⟩,_⟩,_⟩,_,_⟩:=h;obtain rfl:=Option.some.inj (Mz.symm.trans oG);obtain rfl:=Option.some.inj (KE.symm.trans SV);have e:(Rows.laid_internal_strconv_uint64pow10:DataW Unit)=Lib.tabData .u64 Lib.pow10Tab:=by rfl
 rw [e] at xd;unfold Good Lib.TabIs;rw [Yc,←Lib.cells_of_tab Tryz.underlying193 Tryz.underlying67 (by kernel_rfl) (by kernel_rfl) xd]
theorem y6o (os:Os) (args:Array Value):laidMetH Tryz.prog yov ((World.doorLaid Tryz.prog 400 os).forCall (fun _ _=>0) ⟨#[],args,[]⟩).memory:=
 laidMetH_of_parts3 (fuel:=8) (laidMet_of_run' 8 (by kernel_rfl) (by kernel_rfl)) (by kernel_rfl) (by kernel_rfl)
end Go.Proofs.YtmdjdekgakidhaaGreatDoor
namespace Go.Proofs.YtmdjdekgakidhaaGreatDoor
open Go Go.RowKit
theorem Kl {x:AV} (H:Hp) (n:Nat) (h:p1 x=true):snap H (n+1) x=x:=by cases x<;>first|rfl|cases h
theorem VW {x:AV} (H:Hp) (n:Nat) (h:p1 x=true):c9 H (n+1) x:=by cases x<;>first|trivial|cases h
theorem I5 {x:AV} (H:Hp) (n:Nat) (h:p1 x=true):aI H (n+1) x=x:=by cases x<;>first|rfl|cases h
theorem Kk {x:AV} (H:Hp) (n:Nat) (h:p1 x=true):aP H (n+1) x:=by cases x<;>first|trivial|cases h
section
variable {c:List AV} (h:c.all p1=true)
include h
theorem NN (H:Hp) (n:Nat):c.map (snap H (n+1))=c:=by
 conv=>rhs;rw [←List.map_id c]
 exact List.map_congr_left fun x hx=>Kl H n (List.all_eq_true.1 h x hx)
theorem Pd (H:Hp) (n:Nat):(∀x∈c,c9 H (n+1) x)=True:=eq_true fun x hx=>VW H n (List.all_eq_true.1 h x hx)
theorem Sr (H:Hp) (n:Nat):c.map (aI H (n+1))=c:=by
 conv=>rhs;rw [←List.map_id c]
 exact List.map_congr_left fun x hx=>I5 H n (List.all_eq_true.1 h x hx)
theorem NM (H:Hp) (n:Nat):(∀x∈c,aP H (n+1) x)=True:=eq_true fun x hx=>Kk H n (List.all_eq_true.1 h x hx)
end
def swI (i j n:Nat):Nat:=if n=i then j else if n=j then i else n
theorem vd (i j n:Nat):swI i j (swI i j n)=n:=by
 unfold swI;by_cases h1:n=i
 ·rw [if_pos h1];by_cases h2:j=i
  ·rw [if_pos h2];omega
  ·rw [if_neg h2,if_pos rfl];omega
 ·rw [if_neg h1];by_cases h2:n=j
  ·rw [if_pos h2,if_pos rfl];omega
  ·rw [if_neg h2,if_neg h1,if_neg h2]
def swV (i j:Nat):Nat->AV->AV
 |0,x=>if p1 x then x else .any
 |n+1,x=>match x with
  | .sl es id off len=> .sl es (swI i j id) off len
  | .ptr id off=> .ptr (swI i j id) off
  | .mp id=> .mp (swI i j id)
  | .agg xs=> .agg (xs.map (swV i j n))
  | .tup xs=> .tup (xs.map (swV i j n))
  | .fn f xs=> .fn f (xs.map (swV i j n))
  |x=>x
def swO (i j:Nat):AObj->AObj
 | .cells t (.lst l)=> .cells t (.lst (l.map (swV i j 4)))
 | .imap t l=> .imap t (l.map fun q=>(q.1,swV i j 4 q.2))
 | .gmap t ck l=> .gmap t ck (l.map fun q=>(q.1,q.2.1,swV i j 4 q.2.2))
 | .iter m s sn la=> .iter (swI i j m) s sn la
 |o=>o
def swH (i j:Nat):Hp->Hp
 |[]=>[]
 |(k,o)::r=>(swI i j k,swO i j o)::swH i j r
def swF (i j:Nat):Fr->Fr
 |[]=>[]
 |(t,x)::r=>(t,swV i j 4 x)::swF i j r
theorem Es (i j:Nat): ∀(H:Hp) (k:Nat),hget (swH i j H) (swI i j k)=(hget H k).map (swO i j)
 |[],k=>rfl
 |(n,o)::r,k=>by
  simp only [swH,hget];by_cases e:n=k
  ·subst e;simp
  ·have: ¬swI i j n=swI i j k:=fun h=>e (by have:=congrArg (swI i j) h;rwa [vd,vd] at this)
   rw [if_neg this,if_neg e];exact Es i j r k
theorem PS (i j:Nat) (H:Hp) (k:Nat):hget (swH i j H) k=(hget H (swI i j k)).map (swO i j):=by
 have:=Es i j H (swI i j k);rwa [vd] at this
theorem HD (i j:Nat): ∀(fr:Fr) (t:Nat),fget (swF i j fr) t=swV i j 4 (fget fr t)
 |[],t=>rfl
 |(s,x)::r,t=>by
  simp only [swF,fget]
  split
  ·rfl
  ·exact HD i j r t
theorem Ao (i j:Nat) (o:AObj):(swO i j o).live=o.live:=by unfold swO;split<;>rfl
theorem Re {w:World} {M:Nat->Prop} {ρ ρ':Nat->Addr} {D D':Nat->Prop} {i j:Nat} (hD: ∀k,D k->D' (swI i j k)/\ρ' (swI i j k)=ρ k): ∀(n:Nat) (v:Value) (x:AV),VR w M ρ D v x->VR w M ρ' D' v (swV i j n x):=by
 intro n
 induction n with
 |zero=>
  intro v x hv;simp only [swV]
  split
  ·rename_i hp;exact hv.aX hp
  ·exact .any _
 |succ n ih=>
  intro v x hv;cases hv with
  |any v=>exact .any _
  |int k m=>exact .int _ _
  |bool b=>exact .bool _
  |str s=>exact .str _
  |nils=>exact .nils
  |mp id hd=>obtain ⟨h1,h2⟩:=hD id hd;simp only [swV];rw [←h2];exact .mp _ h1
  |ro es len c ad cap x hl hc he h0 hv=>exact VR.aX (VR.ro (D:=D) es len c ad cap x hl hc he h0 hv) rfl
  |rp c off b x hb hm hj hv=>exact VR.aX (VR.rp (D:=D) c off b x hb hm hj hv) rfl
  |ptr id off hd=>obtain ⟨h1,h2⟩:=hD id hd;simp only [swV];rw [←h2];exact .ptr _ _ h1
  |sl es id off len cap hd hc arr t ad ha hb hr=>
   obtain ⟨h1,h2⟩:=hD id hd;exact .sl es (swI i j id) off len cap h1 hc arr t ad (fun h=>by rw [h2];exact ha h) (by rw [h2];exact hb) (by rw [h2];exact hr)
  |agg vs xs hl hx=>
   simp only [swV];refine .agg vs _ (by simp [hl]) fun k u y hu hy=>?_;simp only [List.getElem?_map] at hy;obtain ⟨y',g1,rfl⟩:=Option.map_eq_some_iff.1 hy;exact ih u y' (hx k u y' hu g1)
  |tup vs xs hl hx=>
   simp only [swV];refine .tup vs _ (by simp [hl]) fun k u y hu hy=>?_;simp only [List.getElem?_map] at hy;obtain ⟨y',g1,rfl⟩:=Option.map_eq_some_iff.1 hy;exact ih u y' (hx k u y' hu g1)
  |fn f vs xs hl hx=>
   simp only [swV];refine .fn f vs _ (by simp [hl]) fun k u y hu hy=>?_;simp only [List.getElem?_map] at hy;obtain ⟨y',g1,rfl⟩:=Option.map_eq_some_iff.1 hy;exact ih u y' (hx k u y' hu g1)
theorem Kj {w:World} {M:Nat->Prop} {ρ ρ':Nat->Addr} {D D':Nat->Prop} {i j:Nat} (hD: ∀k,D k->D' (swI i j k)/\ρ' (swI i j k)=ρ k) {k:Nat} {o:AObj} (hi:D k) (h:dP w M ρ D k o):dP w M ρ' D' (swI i j k) (swO i j o):=by
 have hr:=Re (w:=w) (M:=M) (ρ':=ρ') (D':=D') hD;have he:=(hD k hi).2;cases o with
 |gone=>trivial
 |cells t c=>
  obtain ⟨e1,arr,e2,e3,e4⟩:=h;cases c with
  |ints l=>exact ⟨by rw [he];exact e1,arr,by rw [he];exact e2,by rw [he];exact e3,fun j hj=>let ⟨u,hu,hx⟩:=e4 j hj;⟨u,by rw [he];exact hu,hx.aX rfl⟩⟩
  |bools l=>exact ⟨by rw [he];exact e1,arr,by rw [he];exact e2,by rw [he];exact e3,fun j hj=>let ⟨u,hu,hx⟩:=e4 j hj;⟨u,by rw [he];exact hu,hx.aX rfl⟩⟩
  |lst l=>
   refine ⟨by rw [he];exact e1,arr,by rw [he];exact e2,by rw [he];simpa [swO,Cs.len] using e3,fun n hj=>?_⟩;simp only [Cs.len,List.length_map] at hj;obtain ⟨u,hu,hx⟩:=e4 n hj;refine ⟨u,by rw [he];exact hu,?_⟩;simp only [Cs.get,zzB,zzI hj,Option.getD_some] at hx
   have:=hr 4 u _ hx
   simpa [Cs.get,hj] using this
 |fmap t c=>
  obtain ⟨k0,es,ck,k1,k2⟩:=h;exact ⟨k0,es,ck,by rw [he];exact k1,k2⟩
 |gmap t ck l=>
  obtain ⟨es,k1,k2,k3⟩:=h;refine ⟨es,by rw [he];exact k1,by simpa using k2,fun j e q h1 h2=>?_⟩;simp only [List.getElem?_map] at h2;obtain ⟨q',g1,g2⟩:=Option.map_eq_some_iff.1 h2;cases g2;obtain ⟨g3,g4,g5⟩:=k3 j e q' h1 g1;exact ⟨g3,g4,hr 4 _ _ g5⟩
 |iter mid s sn la=>
  obtain ⟨k1,k2,k3⟩:=h;obtain ⟨d1,d2⟩:=hD mid k1;exact ⟨d1,by rw [he];exact k2,by rw [he,d2];exact k3⟩
 |imap t l=>
  obtain ⟨k0,es,ck,k1,k2,k3⟩:=h;refine ⟨fun k x hx=>?_,es,ck,by rw [he];exact k1,by simpa using k2,fun j e k x h1 h2=>?_⟩
  ·obtain ⟨q,g1,g2⟩:=List.mem_map.1 hx;cases g2
   have:=k0 q.1 q.2 g1
   cases hq:q.2<;>rw [hq] at this<;>first|(cases this;done)|rfl
  simp only [List.getElem?_map] at h2;obtain ⟨q,g1,g2⟩:=Option.map_eq_some_iff.1 h2;cases g2;obtain ⟨g3,g4,g5⟩:=k3 j e q.1 q.2 h1 g1;exact ⟨g3,hr 4 _ _ g4,g5⟩
section
variable {B:Nat} {w0:gU} {Mx:Nat->Prop} {N:Nat} {w:World} {ρ:Nat->Addr} {fr:Fr} {H:Hp} {a:Act}
theorem aA.swap (h:aA B w0 Mx N w ρ fr H a) (i j:Nat):aA B w0 Mx N w (fun k=>ρ (swI i j k)) (swF i j fr) (swH i j H) a:=by
 have hg: ∀k o,hget (swH i j H) k=some o-> ∃o',hget H (swI i j k)=some o'/\o=swO i j o':=fun k o hk=>by
  rw [PS] at hk;obtain ⟨o',h1,h2⟩:=Option.map_eq_some_iff.1 hk;exact ⟨o',h1,h2.symm⟩
 have hM:MM Mx (swH i j H) (fun k=>ρ (swI i j k))=MM Mx H ρ:=by
  funext b;apply propext;constructor
  ·rintro (g|⟨id,o,g1,g2,g3⟩)
   ·exact .inl g
   ·obtain ⟨o',k1,rfl⟩:=hg id o g1;exact .inr ⟨_,o',k1,by rw [Ao] at g2;exact g2,g3⟩
  ·rintro (g|⟨id,o,g1,g2,g3⟩)
   ·exact .inl g
   ·exact .inr ⟨swI i j id,swO i j o,by rw [Es,g1];rfl,by rw [Ao];exact g2,by show (ρ (swI i j (swI i j id))).block=b;rw [vd];exact g3⟩
 have hD: ∀k,DD H k->DD (swH i j H) (swI i j k)/\(fun k=>ρ (swI i j k)) (swI i j k)=ρ k:=fun k ⟨o,ho⟩=>⟨⟨swO i j o,by rw [Es,ho];rfl⟩,by show ρ (swI i j (swI i j k))=ρ k;rw [vd]⟩;refine ⟨h.below,h.hB,h.mx,fun id o ho hl=>?_,fun id o ho=>?_,fun id o bC o' ho hl vK uf e=>?_,fun t=>?_,h.defers,h.size⟩
 ·obtain ⟨o',k1,rfl⟩:=hg id o ho;exact h.own _ o' k1 (by rw [Ao] at hl;exact hl)
 ·obtain ⟨o',k1,rfl⟩:=hg id o ho
  have:=Kj (w:=w) (M:=MM Mx H ρ) (ρ':=fun k=>ρ (swI i j k)) hD ⟨o',k1⟩ (h.objs _ o' k1)
  rw [vd] at this;rw [hM];exact this
 ·obtain ⟨q,k1,rfl⟩:=hg id o ho;obtain ⟨q',XZ,rfl⟩:=hg bC o' vK
  have:=h.inj _ q _ q' k1 (by rw [Ao] at hl;exact hl) XZ (by rw [Ao] at uf;exact uf) e
  have:=congrArg (swI i j) this
  rwa [vd,vd] at this
 ·rw [hM,HD];exact Re hD 4 _ _ (h.frv t)
end
theorem Wk.swap (i j:Nat) (fr:Fr) (H:Hp):Wk fr H (swF i j fr) (swH i j H):=fun _ _ _ _ _ ρ _ hs=>⟨fun k=>ρ (swI i j k),hs.swap i j⟩
theorem Wk.nS (i j:Nat) {fr fr' fr1:Fr} {H H' H1:Hp} (e1:swF i j fr'=fr1) (e2:swH i j H'=H1) (e3:swF i j fr1=fr') (e4:swH i j H1=H') (hf:subF fr H1 fr1) (hh:subH H H1 H1):Wk fr H fr' H':=by
 have:=(Wk.sub hf hh).trans (Wk.swap i j fr1 H1)
 rwa [e3,e4] at this
attribute [go_sem] swI swV swO swH swF
set_option maxRecDepth 100000
set_option maxHeartbeats 8000000
abbrev qwA (z:Int):AV:= .agg [I (z/1125899906842624),I (z % 1125899906842624)]
attribute [go_sem] qwA
abbrev vt (h l:Int):AObj:= .cells 129 (.lst [I h,I l])
theorem NL (h l:Int) (h0: -4611686018427387904<=h/\h<=4611686018427387904) (l0: -1125899906842624<=l/\l<=4503599627370496):Fn Tryz.prog 140 [.agg [I h,I l]] (qwA (h*1125899906842624+l)):=by
 refine Fn.ai [.cell 2 129] Tryz.func140 rfl rfl (by decide) (by simp [Tryz.ntmps140]) ?_;rw [Tryz.ntmps140]
 repeat' (first|omega|(try apply ag);simp only [go_sem,sevalprocAttr]|apply ae<;>(intro h_;(try simp only [h_]);revert h_)|apply And.intro|with_reducible intro h_|trivial|simp only [go_sem,ah];omega)
 refine aR.intro (fun n fr H=> ∃h' l':Int,h'*1125899906842624+l'=h*1125899906842624+l/\ -4611686018427387905<=h'/\h'<=4611686018427387904/\ -1125899906842624<=l'/\l'<=4503599627370496/\n=(if l'<0 then 1 else 0)/\fr=[(2, .ptr 1 0),(1, .ptr 0 0)]/\H=[(1,vt 0 0),(0,vt h' l')]) ?_ ?_
 ·refine ⟨_,_,_,?_,h,l,rfl,by omega,by omega,by omega,by omega,rfl,rfl,rfl⟩;refine Wk.sub ?_ ?_<;>simp only [go_sem,sevalprocAttr]
 rintro n fr H ⟨h',l',e,h1,h2,l1,l2,rfl,rfl,rfl⟩;by_cases hl:l'<0
 ·have b0:decide (l'<0)=true:=by simpa using hl
  repeat' (first|omega|(try apply ag);simp only [go_sem,sevalprocAttr,b0]|apply ae<;>(intro h_;(try simp only [h_]);revert h_)|apply And.intro|with_reducible intro h_|trivial|simp only [go_sem,ah];omega)
  refine ⟨_,_,_,?_,?_,h'-1,l'+1125899906842624,by omega,by omega,by omega,by omega,by omega,rfl,rfl,rfl⟩
  ·rw [if_pos hl,if_neg (by omega)];omega
  ·refine Wk.sub ?_ ?_<;>simp only [go_sem,sevalprocAttr]
 ·have b0:decide (l'<0)=false:=by simpa using hl
  have t1:=sG (a:=l') (b:=1125899906842624) (by omega);have t2:=zU (a:=l') (b:=1125899906842624) (by omega)
  repeat' (first|omega|(try apply ag);simp only [go_sem,sevalprocAttr,b0,t1,t2]|apply ae<;>(intro h_;(try simp only [h_]);revert h_)|apply And.intro|with_reducible intro h_|trivial|simp only [go_sem,ah];omega)
  all_goals exact az.of (by congr 3<;>first|(congr 1;omega)|skip)
theorem Hm (x y:Int) (hx: -2596148429267413814265248164610048<=x/\x<=2596148429267413814265248164610048) (hy: -2596148429267413814265248164610048<=y/\y<=2596148429267413814265248164610048):
  Fn Tryz.prog 139 [qwA x,qwA y] (qwA (x+y)):=by
 have hN:=NL (x/1125899906842624+y/1125899906842624) (x % 1125899906842624+y % 1125899906842624) (by omega) (by omega);rw [show (x/1125899906842624+y/1125899906842624)*1125899906842624+(x % 1125899906842624+y % 1125899906842624)=x+y by omega] at hN;have r1: -2305843009213693952<=x/1125899906842624/\x/1125899906842624<=2305843009213693952:=by omega
 have r2: -2305843009213693952<=y/1125899906842624/\y/1125899906842624<=2305843009213693952:=by omega
 refine Fn.ai [.cell 4 129] Tryz.func139 rfl rfl (by decide) (by simp [Tryz.ntmps139]) ?_;rw [Tryz.ntmps139]
 repeat' (first|omega|(try apply ag);simp only [go_sem,sevalprocAttr]|apply ae<;>(intro h_;(try simp only [h_]);revert h_)|apply And.intro|with_reducible intro h_|trivial|simp only [go_sem,ah];omega)
 refine ⟨au.fn rfl hN ?_⟩
 repeat' (first|omega|(try apply ag);simp only [go_sem,sevalprocAttr]|apply ae<;>(intro h_;(try simp only [h_]);revert h_)|apply And.intro|with_reducible intro h_|trivial|simp only [go_sem,ah];omega)
 all_goals exact az.refl _
theorem Xs (z:Int) (h0: -1125899906842624<=z/\z<=1125899906842624):Fn Tryz.prog 141 [qwA z] (.tup [I z, .bool true]):=by
 have b0:decide (z/1125899906842624< -2)=false:=by simp;omega
 have b1:decide (2<z/1125899906842624)=false:=by simp;omega
 have e:z/1125899906842624*1125899906842624+z % 1125899906842624=z:=by omega
 have b2:decide (-1125899906842624<=z)=true:=by simp;omega
 have b3:decide (z<=1125899906842624)=true:=by simp;omega
 refine Fn.ai [.tmp 2, .tmp 3] Tryz.func141 rfl rfl (by decide) (by simp [Tryz.ntmps141]) ?_;rw [Tryz.ntmps141]
 repeat' (first|omega|(try apply ag);simp only [go_sem,sevalprocAttr,b0,b1,e,b2,b3]|apply ae<;>(intro h_;(try simp only [h_]);revert h_)|apply And.intro|with_reducible intro h_|trivial|simp only [go_sem,ah];omega)
 all_goals exact az.refl _
theorem NK (h b:Int) (h0:0<=h) (h1:h<=100000):Fn Tryz.prog 116 [I h,I b] (I (fC h b)):=Km h b h0 h1
theorem UH (s m:List Int) (L:Int) (hs:s.length<=1000) (hm:iN m s.length):Fn Tryz.prog 76 [dgA s m L] (.bool (kN m s.length)):=by
 obtain ⟨p1,p2,p3,p4⟩:=HY hm;have fv:=hm.1;refine Fn.intro [.tmp 2] Tryz.func76 rfl rfl (by decide) (by simp [Tryz.ntmps76]) ?_;rw [Tryz.ntmps76]
 repeat' (first|omega|(try apply ag);simp only [go_sem,sevalprocAttr]|apply ae<;>(intro h_;(try simp only [h_]);revert h_)|apply And.intro|with_reducible intro h_|trivial|simp only [go_sem,ah];omega)
 refine ⟨au.fn rfl (VX s m L hs hm) ?_⟩
 repeat' (first|omega|(try apply ag);simp only [go_sem,sevalprocAttr]|apply ae<;>(intro h_;(try simp only [h_]);revert h_)|apply And.intro|with_reducible intro h_|trivial|simp only [go_sem,ah];omega)
 generalize lW:(eX m s.length).1=part at*;generalize yY:(eX m s.length).2=np at*;refine aR.intro (fun n fr H=> ∃k:Nat,k<=part.length/\n=part.length-k/\fr=[(22,I k),(21,I part.length),(20,roI part),(5, .sl 1 1 0 np.toNat),(3,roI part),(1, .ptr 0 0)]/\H=[(1, .cells 3 (.ints (fJ part np.toNat k))),(0, .cells 24 (.lst [roI s,roI m,I L]))]) ?_ ?_
 ·refine ⟨_,_,_,?_,0,by omega,rfl,rfl,rfl⟩;refine Wk.sub ?_ ?_<;>simp only [go_sem,sevalprocAttr];simp [fJ]
 rintro n fr H ⟨k,hk,rfl,rfl,rfl⟩;obtain ⟨d1,d2⟩:=DX part np.toNat k;by_cases bM:k<part.length
 ·have q4:=p4 k (by omega);have d3:=d2 (part.getD k 0).toNat
  repeat' (first|omega|(try apply ag);simp only [go_sem,sevalprocAttr]|apply ae<;>(intro h_;(try simp only [h_]);revert h_)|apply And.intro|with_reducible intro h_|trivial|simp only [go_sem,ah];omega)
  refine ⟨_,_,_,?_,?_,⟨k+1,by omega,rfl,rfl,rfl⟩⟩
  ·omega
  ·refine Wk.sub ?_ ?_<;>simp only [go_sem,sevalprocAttr];rfl
 obtain rfl:k=part.length:=by omega
 repeat' (first|omega|(try apply ag);simp only [go_sem,sevalprocAttr]|apply ae<;>(intro h_;(try simp only [h_]);revert h_)|apply And.intro|with_reducible intro h_|trivial|simp only [go_sem,ah];omega)
 refine aR.intro (fun n fr H=> ∃h:Nat,h<=m.length/\n=m.length-h/\fr=[(40,I h),(39,I m.length),(8, .sl 1 2 0 m.length),(5, .sl 1 1 0 np.toNat),(3,roI part),(1, .ptr 0 0)]/\H=[(2, .cells 4 (.bools (bF m part np.toNat h).2)),(1, .cells 3 (.ints (bF m part np.toNat h).1)),(0, .cells 24 (.lst [roI s,roI m,I L]))]) ?_ ?_
 ·refine ⟨_,_,_,?_,0,by omega,rfl,rfl,rfl⟩;refine Wk.sub ?_ ?_<;>simp only [go_sem,sevalprocAttr]
  all_goals simp [bF]
 rintro n fr H ⟨h,hh,rfl,rfl,rfl⟩;obtain ⟨e1,e2,e3⟩:=yi m part np.toNat h;by_cases B7:h<m.length
 ·have q4:=p4 (h/4) (by omega);have e4:=e3 (part.getD (h/4) 0).toNat;have e5:(h:Int).tdiv 4=(h/4:Nat):=by rw [sG (by omega)];omega
  have e6:((h:Int).toNat)=h:=by omega
  repeat' (first|omega|(try apply ag);simp only [go_sem,sevalprocAttr,e5]|apply ae<;>(intro h_;(try simp only [h_]);revert h_)|apply And.intro|with_reducible intro h_|trivial|simp only [go_sem,ah];omega)
  ·have eS:bF m part np.toNat (h+1)=bF m part np.toNat h:=by
    simp only [bF,qP];rw [if_pos (by assumption)]
   refine ⟨_,_,_,?_,?_,⟨h+1,by omega,rfl,rfl,rfl⟩⟩
   ·omega
   ·refine Wk.sub ?_ ?_<;>(rw [eS];simp only [go_sem,sevalprocAttr])
  ·have hf:(bF m part np.toNat h).2.getD h false=false:=by assumption
   have eS:bF m part np.toNat (h+1)=((bF m part np.toNat h).1.set (part.getD (h/4) 0).toNat ((bF m part np.toNat h).1.getD (part.getD (h/4) 0).toNat 0+1),mark m (m.length+1) (bF m part np.toNat h).2 h):=by
    simp only [bF,qP];rw [if_neg (kW hf)]
   have hu:=Jz (bF m part np.toNat h).2;generalize (bF m part np.toNat h).2=gw at*;generalize (bF m part np.toNat h).1.set (part.getD (h/4) 0).toNat ((bF m part np.toNat h).1.getD (part.getD (h/4) 0).toNat 0+1)=exc at*
   refine aR.intro (fun f fr H=> ∃(seen:List Bool) (g:Int),AJ seen<f/\seen.length=m.length/\0<=g/\g<4*s.length/\mark m f seen g=mark m (m.length+1) gw h/\
    fr=[(10,I g),(40,I h),(39,I m.length),(8, .sl 1 2 0 m.length),(5, .sl 1 1 0 np.toNat),(3,roI part),(1, .ptr 0 0)]/\H=[(2, .cells 4 (.bools seen)),(1, .cells 3 (.ints exc)),(0, .cells 24 (.lst [roI s,roI m,I L]))]) ?_ ?_
   ·refine ⟨m.length+1,_,_,?_,gw,h,by omega,e2,by omega,by omega,rfl,rfl,rfl⟩;refine Wk.sub ?_ ?_<;>simp only [go_sem,sevalprocAttr]
   rintro f fr H ⟨seen,g,Tg,Tf,uk,vQ,uc,rfl,rfl⟩;obtain ⟨f',rfl⟩: ∃f',f=f'+1:=⟨f-1,by omega⟩;have l5:=hm.2 g.toNat (by omega)
   repeat' (first|omega|(try apply ag);simp only [go_sem,sevalprocAttr]|apply ae<;>(intro h_;(try simp only [h_]);revert h_)|apply And.intro|with_reducible intro h_|trivial|simp only [go_sem,ah];omega)
   ·refine ⟨au.fn rfl (NK _ _ l5.1 (by omega)) ?_⟩
    repeat' (first|omega|(try apply ag);simp only [go_sem,sevalprocAttr]|apply ae<;>(intro h_;(try simp only [h_]);revert h_)|apply And.intro|with_reducible intro h_|trivial|simp only [go_sem,ah];omega)
    have nY:seen.getD g.toNat false=false:=by assumption
    have hus:=Kp (l:=seen) (i:=g.toNat) (by omega) nY;have BA:=EJ (b:= -1) l5.1 l5.2;refine ⟨f',_,_,?_,?_,⟨seen.set g.toNat true,fC (m.getD g.toNat 0) (-1),by omega,by simp [Tf],BA.1,BA.2,?_,rfl,rfl⟩⟩
    ·omega
    ·refine Wk.sub ?_ ?_<;>simp only [go_sem,sevalprocAttr]
    ·rw [←uc];simp only [mark];rw [if_neg (kW nY)]
   ·have nY:seen.getD g.toNat false=true:=by assumption
    have Ly:seen=mark m (m.length+1) gw h:=by rw [←uc];simp only [mark];rw [if_pos nY]
    refine ⟨_,_,_,?_,?_,⟨h+1,by omega,rfl,rfl,rfl⟩⟩
    ·omega
    ·refine Wk.sub ?_ ?_<;>(rw [eS];simp only [go_sem,sevalprocAttr]);exact Ly
 obtain rfl:h=m.length:=by omega
 repeat' (first|omega|(try apply ag);simp only [go_sem,sevalprocAttr]|apply ae<;>(intro h_;(try simp only [h_]);revert h_)|apply And.intro|with_reducible intro h_|trivial|simp only [go_sem,ah];omega)
 refine aR.intro (fun n fr H=> ∃k:Nat,k<=np.toNat/\n=np.toNat-k/\(∀i,i<k->(bF m part np.toNat m.length).1.getD i 0=2)/\fr=[(75,I k),(74,I np.toNat),(73, .sl 1 1 0 np.toNat)]/\H=[(1, .cells 3 (.ints (bF m part np.toNat m.length).1))]) ?_ ?_
 ·refine ⟨_,_,_,?_,0,by omega,rfl,by omega,rfl,rfl⟩;refine Wk.sub ?_ ?_<;>simp only [go_sem,sevalprocAttr]
 rintro n fr H ⟨k,hk,rfl,cF,rfl,rfl⟩
 repeat' (first|omega|(try apply ag);simp only [go_sem,sevalprocAttr]|apply ae<;>(intro h_;(try simp only [h_]);revert h_)|apply And.intro|with_reducible intro h_|trivial|simp only [go_sem,ah];omega)
 ·unfold kN;rw [lW,yY];exact (T2 (k:=k) (by rw [(yi m part np.toNat m.length).1];omega) (by assumption)).symm
 ·refine ⟨_,_,_,?_,?_,⟨k+1,by omega,rfl,fun i hi=>?_,rfl,rfl⟩⟩
  ·omega
  ·refine Wk.sub ?_ ?_<;>simp only [go_sem,sevalprocAttr]
  ·rcases Nat.lt_or_ge i k with g|g
   ·exact cF i g
   ·rw [show i=k by omega];assumption
 ·unfold kN;rw [lW,yY];exact (Xk (fun i hi=>cF i (by rw [(yi m part np.toNat m.length).1] at hi;omega))).symm
end Go.Proofs.YtmdjdekgakidhaaGreatDoor
