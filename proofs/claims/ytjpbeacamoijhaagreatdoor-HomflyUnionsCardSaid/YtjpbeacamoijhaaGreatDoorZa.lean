/- Layer 1: contracts of the program's functions on diagrams. -/
import Derived.Test.YtjpbeacamoijhaaGreatDoorTy
import Derived.Test.YtjpbeacamoijhaaGreatDoorPl
import Derived.Test.YtjpbeacamoijhaaGreatDoorRows
import Derived.ProofKit
import Derived.LaidMore
import Derived.OpenShut
import Derived.Stop.Joined
import Derived.ReadAgain
import Derived.Lib.SmallJoins
import Derived.ChangeSlices
import Derived.Test.YtjpbeacamoijhaaGreatDoorTie
import Derived.Test.YtjpbeacamoijhaaGreatDoorCards
import Derived.SevenTiedAt
import Derived.Deep.Grids
import Derived.Test.YtjpbeacamoijhaaGreatDoorGc
import Derived.Laws.IdiomRangeMap
import Derived.Laws.BytesString
set_option linter.unusedSimpArgs false
set_option linter.unusedVariables false
namespace Go.Proofs.YtjpbeacamoijhaaGreatDoor
open Go Go.RowKit
set_option maxRecDepth 100000
abbrev roI (l:List Int):AV:= .ro 1 l.length (.ints l)
abbrev roB (l:List Bool):AV:= .ro 1 l.length (.bools l)
abbrev dgA (s m:List Int) (L:Int):AV:= .agg [roI s,roI m,I L]
attribute [go_sem] roI roB dgA
def pW (l:List Int):AV:= .ro 1 l.length (.ints l)
abbrev qL (ls:List (List Int)):AV:= .ro 1 ls.length (.lst (ls.map pW))
theorem y0f (H:Hp) (l:List Int):s3 H (pW l)=true:=rfl
theorem yfp (H:Hp) (ls:List (List Int)):ls.all (s3 H∘pW)=true:=by simp [y0f]
theorem y79 (n:Nat):cutV n∘pW=pW:=by funext l;rfl
theorem y4s (H:Hp) (n:Nat):snap H (n+1)∘pW=pW:=by funext l;rfl
theorem y7 (H:Hp) (n:Nat) (ls:List (List Int)): ∀x∈ls.map pW,eT H (n+1) x:=fun x hx=>by
 obtain ⟨l,_,rfl⟩:=List.mem_map.1 hx;trivial
theorem Uh (ls:List (List Int)) (i:Nat) (h:i<ls.length):(ls.map pW).getD i .any=roI (ls.getD i []):=by simp [h,pW]
attribute [go_sem] y0f yfp y79 y4s
theorem MI {a b:Int} (h:0<=a):a.tmod b=a % b:=Int.tmod_eq_emod_of_nonneg h
theorem s9 {a b:Int} (h:0<=a):a.tdiv b=a/b:=Int.tdiv_eq_ediv_of_nonneg h
theorem y8a (h b:Int) (h0:0<=h) (h1:h<=100000):Fn Tryz.prog 110 [I h,I b] (I (h-h % 4+(h % 4+b.tmod 4+4)% 4)):=by
 have e1:h.tmod 4=h % 4:=Int.tmod_eq_emod_of_nonneg h0;have e2: -4<b.tmod 4/\b.tmod 4<4:=⟨Int.lt_tmod_of_pos b (by decide),Int.tmod_lt_of_pos b (by decide)⟩;have e3:(h % 4+b.tmod 4+4).tmod 4=(h % 4+b.tmod 4+4)% 4:=Int.tmod_eq_emod_of_nonneg (by omega);refine Fn.intro [.tmp 4] Tryz.func110 rfl rfl (by decide) (by simp [Tryz.ntmps110]) ?_;rw [Tryz.ntmps110]
 repeat' (first|omega|(try apply ah);simp only [go_sem,sevalprocAttr]|apply ag<;>(intro h_;(try simp only [h_]);revert h_)|apply zzL|with_reducible intro h_|trivial|simp only [go_sem,ai];omega)
 all_goals try simp only [e1,e3]
 all_goals try omega
theorem Kn (s m:List Int) (L h:Int) (h0:0<=h) (h1:h<4*s.length) (hs:s.length<=1000):Fn Tryz.prog 92 [dgA s m L,I h] (.bool (aj s h)):=by
 have e1:h.tmod 4=h % 4:=Int.tmod_eq_emod_of_nonneg h0;have e2:h.tdiv 4=h/4:=Int.tdiv_eq_ediv_of_nonneg h0;refine Fn.intro [.tmp 4] Tryz.func92 rfl rfl (by decide) (by simp [Tryz.ntmps92]) ?_;rw [Tryz.ntmps92]
 repeat' (first|omega|(try apply ah);simp only [go_sem,sevalprocAttr]|apply ag<;>(intro h_;(try simp only [h_]);revert h_)|apply zzL|with_reducible intro h_|trivial|simp only [go_sem,ai];omega)
 all_goals try simp only [e1,e2] at*
 all_goals try omega
 all_goals simp_all [aj]
theorem y4t (s m:List Int) (L:Int) (hs:s.length<=1000) (hm:pT m s.length):Fn Tryz.prog 140 [dgA s m L] (.tup [roI (jw m s.length).1,I (jw m s.length).2]):=by
 refine Fn.intro [.tmp 2, .tmp 3] Tryz.func140 rfl rfl (by decide) (by simp [Tryz.ntmps140]) ?_;rw [Tryz.ntmps140]
 repeat' (first|omega|(try apply ah);simp only [go_sem,sevalprocAttr]|apply ag<;>(intro h_;(try simp only [h_]);revert h_)|apply zzL|with_reducible intro h_|trivial|simp only [go_sem,ai];omega)
 refine cN.intro (fun n fr H=> ∃k:Nat,k<=s.length/\n=s.length-k/\fr=[(18,I k),(17,I s.length),(4, .sl 1 1 0 s.length),(1, .ptr 0 0)]/\H=[(1, .cells 3 (.ints (List.replicate k (-1)++List.replicate (s.length-k) 0))),(0, .cells 24 (.lst [roI s,roI m,I L]))]) ?_ ?_
 ·refine ⟨_,_,_,?_,0,by omega,rfl,rfl,rfl⟩;refine Wk.sub ?_ ?_<;>simp only [go_sem,sevalprocAttr];simp
 rintro n fr H ⟨k,hk,rfl,rfl,rfl⟩
 repeat' (first|omega|(try apply ah);simp only [go_sem,sevalprocAttr]|apply ag<;>(intro h_;(try simp only [h_]);revert h_)|apply zzL|with_reducible intro h_|trivial|simp only [go_sem,ai];omega)
 ·refine ⟨_,_,_,?_,?_,⟨k+1,by omega,rfl,rfl,rfl⟩⟩
  ·omega
  ·refine Wk.sub ?_ ?_<;>simp only [go_sem,sevalprocAttr];exact y4n _ _ _ _ (by omega)
 obtain rfl:k=s.length:=by omega
 refine cN.intro (fun n fr H=> ∃k:Nat,k<=s.length/\n=s.length-k/\fr=[(27,I k),(26,I s.length),(6,I (cj m s.length k).2),(4, .sl 1 1 0 s.length),(1, .ptr 0 0)]/\H=[(1, .cells 3 (.ints (cj m s.length k).1)),(0, .cells 24 (.lst [roI s,roI m,I L]))]) ?_ ?_
 ·refine ⟨_,_,_,?_,0,by omega,rfl,rfl,rfl⟩;refine Wk.sub ?_ ?_<;>simp only [go_sem,sevalprocAttr]
  ·simp [cj]
  ·simp [cj]
 rintro n fr H ⟨k,hk,rfl,rfl,rfl⟩;obtain ⟨az,aU,KL⟩:=E7 hm k hk;have og:=az.1
 repeat' (first|omega|(try apply ah);simp only [go_sem,sevalprocAttr]|apply ag<;>(intro h_;(try simp only [h_]);revert h_)|apply zzL|with_reducible intro h_|trivial|simp only [go_sem,ai];omega)
 ·refine ⟨_,_,_,?_,?_,⟨k+1,by omega,rfl,rfl,rfl⟩⟩
  ·omega
  ·have e:cj m s.length (k+1)=cj m s.length k:=by simp only [cj,Eo];rw [zzJ (by assumption)]
   refine Wk.sub ?_ ?_<;>(simp only [go_sem,sevalprocAttr];rw [e])
 ·have tz:(cj m s.length k).1.getD k 0<0:=by assumption
  have C4:k<s.length:=by omega
  have eN:cj m s.length (k+1)=(bfs m (cj m s.length k).2 (2*s.length+1) ((cj m s.length k).1.set k (cj m s.length k).2) [(k:Int)],(cj m s.length k).2+1):=by simp only [cj,Eo];rw [zzI (by omega)]
  have CY:=M3 (i:=k) (by omega) tz aU;have CW:=SY (cj m s.length k).1;have rD:v8 s.length (cj m s.length k).2 ((cj m s.length k).1.set k (cj m s.length k).2):=⟨by simp [og],fun i hi=>by
   by_cases e:k=i
   ·subst e;rw [nY (by omega)];omega
   ·rw [nZ e];exact az.2 i hi⟩
  generalize (cj m s.length k).1.set k (cj m s.length k).2=Bh at*
  refine cN.intro (fun f fr H=> ∃(part q cq:List Int) (off:Nat),2*pY part+q.length<=f/\f<=2*s.length+1/\v8 s.length (cj m s.length k).2 part/\Bg s.length q/\off+q.length=cq.length/\cq.drop off=q/\bfs m (cj m s.length k).2 f part q=bfs m (cj m s.length k).2 (2*s.length+1) Bh [(k:Int)]/\
   fr=[(8, .sl 1 2 off q.length),(27,I k),(26,I s.length),(6,I (cj m s.length k).2),(4, .sl 1 1 0 s.length),(1, .ptr 0 0)]/\H=[(2, .cells 3 (.ints cq)),(1, .cells 3 (.ints part)),(0, .cells 24 (.lst [roI s,roI m,I L]))]) ?_ ?_
  ·refine ⟨_,_,_,?_,Bh,[(k:Int)],[(k:Int)],0,?_,zzA _,rD,fun x hx=>by simp at hx;omega,rfl,rfl,rfl,rfl,rfl⟩
   ·refine Wk.sub ?_ ?_<;>simp only [go_sem,sevalprocAttr]
   ·simp only [List.length_singleton];omega
  rintro f fr H ⟨part,q,cq,off,hf,Qi,PL,Yr,hoc,KT,QA,rfl,rfl⟩;have hppl:=PL.1
  repeat' (first|omega|(try apply ah);simp only [go_sem,sevalprocAttr]|apply ag<;>(intro h_;(try simp only [h_]);revert h_)|apply zzL|with_reducible intro h_|trivial|simp only [go_sem,ai];omega)
  ·--the four neighbours
   have Bu:0<q.length:=by omega
   obtain ⟨c,q',rfl⟩: ∃c q',q=c::q':=by
    cases q with
    |nil=>simp at Bu
    |cons c q'=>exact ⟨c,q',rfl⟩
   have KU:cq.getD off 0=c:=by
    have:=congrArg (fun l=>l.getD 0 0) KT
    simpa using this
   have Qm:cq.drop (off+1)=q':=by
    have:=congrArg List.tail KT
    simpa using this
   have Qo:=Yr c (by simp);have PG:Bg s.length q':=fun x hx=>Yr x (by simp [hx]);simp only [zzG] at hf hoc;rw [KU]
   refine cN.intro (fun j fr H=> ∃(i:Nat) (cq ti:_),j=4-i/\i<=4/\ti+(lb4 m c (cj m s.length k).2 (part,q') i).2.length=(cq:List Int).length/\cq.drop ti=(lb4 m c (cj m s.length k).2 (part,q') i).2/\
    fr=[(49,I i),(8, .sl 1 2 ti (lb4 m c (cj m s.length k).2 (part,q') i).2.length),(9,I c),(27,I k),(26,I s.length),(6,I (cj m s.length k).2),(4, .sl 1 1 0 s.length),(1, .ptr 0 0)]/\H=[(2, .cells 3 (.ints cq)),(1, .cells 3 (.ints (lb4 m c (cj m s.length k).2 (part,q') i).1)),(0, .cells 24 (.lst [roI s,roI m,I L]))]) ?_ ?_
   ·refine ⟨_,_,_,?_,0,cq,off+1,rfl,by omega,by simp only [lb4];omega,by simp only [lb4];exact Qm,rfl,rfl⟩;refine Wk.sub ?_ ?_<;>simp only [go_sem,sevalprocAttr]
    ·simp [lb4]
    ·simp [lb4]
   rintro j fr H ⟨i,cq,ti,rfl,hi,zl,KN,rfl,rfl⟩;obtain ⟨g1,g2,g3,g5⟩:=Jb hm Qo aU (st:=(part,q')) PL PG i hi;have g1l:=g1.1;simp only at g3 g5;by_cases hi4:i<4
   ·have qz:=hm.2 (4*c+i).toNat (by omega);have iR:=hm.1;have e2:(m.getD (4*c+i).toNat 0).tdiv 4=m.getD (4*c+i).toNat 0/4:=s9 qz.1;have KH:0<=m.getD (4*c+i).toNat 0/4/\m.getD (4*c+i).toNat 0/4<s.length:=by omega
    have eL:lb4 m c (cj m s.length k).2 (part,q') (i+1)=p7 m c (cj m s.length k).2 i (lb4 m c (cj m s.length k).2 (part,q') i):=rfl
    repeat' (first|omega|(try apply ah);simp only [go_sem,sevalprocAttr,e2]|apply ag<;>(intro h_;(try simp only [h_]);revert h_)|apply zzL|with_reducible intro h_|trivial|simp only [go_sem,ai];omega)
    ·have Yt:(lb4 m c (cj m s.length k).2 (part,q') i).1.getD (m.getD (4*c+i).toNat 0/4).toNat 0<0:=by assumption
     have eB:lb4 m c (cj m s.length k).2 (part,q') (i+1)=((lb4 m c (cj m s.length k).2 (part,q') i).1.set (m.getD (4*c+i).toNat 0/4).toNat (cj m s.length k).2,(lb4 m c (cj m s.length k).2 (part,q') i).2++[m.getD (4*c+i).toNat 0/4]):=by
      rw [eL];unfold p7;simp only;rw [zzJ Yt]
     refine ⟨_,_,_,?_,?_,⟨i+1,cq.drop ti++[m.getD (4*c+i).toNat 0/4],0,rfl,by omega,?_,?_,rfl,rfl⟩⟩
     ·omega
     ·refine Wk.sub ?_ ?_<;>(rw [eB];simp only [go_sem,sevalprocAttr])
     ·rw [eB,KN];simp
     ·rw [eB,KN];simp
    ·have Yt:0<=(lb4 m c (cj m s.length k).2 (part,q') i).1.getD (m.getD (4*c+i).toNat 0/4).toNat 0:=by assumption
     have eB:lb4 m c (cj m s.length k).2 (part,q') (i+1)=lb4 m c (cj m s.length k).2 (part,q') i:=by
      rw [eL];unfold p7;simp only;rw [zzI (by omega)]
     refine ⟨_,_,_,?_,?_,⟨i+1,cq,ti,rfl,by omega,?_,?_,rfl,rfl⟩⟩
     ·omega
     ·refine Wk.sub ?_ ?_<;>(rw [eB];simp only [go_sem,sevalprocAttr])
     ·rw [eB];exact zl
     ·rw [eB];exact KN
   ·obtain rfl:i=4:=by omega
    repeat' (first|omega|(try apply ah);simp only [go_sem,sevalprocAttr]|apply ag<;>(intro h_;(try simp only [h_]);revert h_)|apply zzL|with_reducible intro h_|trivial|simp only [go_sem,ai];omega)
    obtain ⟨f',rfl⟩: ∃f',f=f'+1:=⟨f-1,by omega⟩;refine ⟨f',_,_,?_,?_,⟨(lb4 m c (cj m s.length k).2 (part,q') 4).1,(lb4 m c (cj m s.length k).2 (part,q') 4).2,cq,ti,?_,?_,g1,g2,zl,KN,?_,rfl,rfl⟩⟩
    ·omega
    ·refine Wk.sub ?_ ?_<;>simp only [go_sem,sevalprocAttr]
    ·omega
    ·omega
    ·rw [<-QA];rfl
  ·obtain rfl:q=[]:=zzQ (by omega);have eP:bfs m (cj m s.length k).2 f part []=part:=by unfold bfs;rfl
   rw [eP] at QA;refine ⟨_,_,_,?_,?_,⟨k+1,by omega,rfl,rfl,rfl⟩⟩
   ·omega
   ·refine Wk.sub ?_ ?_<;>(rw [eN];simp only [go_sem,sevalprocAttr]);exact QA
 ·obtain rfl:k=s.length:=by omega
  exact og.symm
 ·obtain rfl:k=s.length:=by omega
  exact zzR (by omega)
 ·obtain rfl:k=s.length:=by omega
  rfl
end Go.Proofs.YtjpbeacamoijhaaGreatDoor
namespace Go.Proofs.YtjpbeacamoijhaaGreatDoor
set_option maxRecDepth 100000
open Go Go.Joins Go.ChangeShapes Go.WideShapes Go.ChangeAt Go.WideMaps Go.WideElems Go.RowKit
theorem kids:Kids Tryz.prog (· <Tryz.prog.types.size):=kids_rows (by kernel_rfl) (by kernel_rfl)
theorem full: ∀t e,t<Tryz.prog.types.size->Tryz.prog.underlying t=some (.slice e)->0<Tryz.prog.cellsOf e:=slices_full_of Tryz.prog (by kernel_rfl)
section
variable {H:Type} {enc:TypeId×Value->H}
theorem Vy {P:Program} {W W':World} {base:Nat} {sp:Nat->Bool} {held:Bool}: ∀{ts:List TypeId} {vs:List Value} {ds:List (DataW H)} {ps:List MemPlace},DataW.TrodAll enc P W base sp held ts vs ds ps->(∀p∈ps,W.sameAt W' p)->DataW.TrodAll enc P W' base sp held ts vs ds ps
 |[],[],[],_,h,_=>h
 |_::_,_::_,_::_,_,⟨p,q,⟨n,h1⟩,h2,e⟩,hs=>⟨p,q,⟨n,DataW.trod_carry n _ _ _ h1 (fun x hx=>hs x (by rw [e];exact List.mem_append_left _ hx))⟩,Vy h2 (fun x hx=>hs x (by rw [e];exact List.mem_append_right _ hx)),e⟩
theorem y4u {f:Func} {s:ChangeSpec} {apart fresh handsOn again:Bool} {W W':World} {args:Array Value} {ds gs:List (DataW H)} {before:List MemPlace}
  (hW:DataW.Whole enc Tryz.prog f.params.toList s.vars apart W args.toList ds gs before) (hv:s.vars=[]) (hT: ∀t∈f.params.toList,t<Tryz.prog.types.size)
  (hr:f.resultTypes= #[4]) (hs:s.fn H (ds++gs)={results:=[.lit (.bool true)],args:=ds}) (hb:Below W.heap.size W W'):
  s.post enc Tryz.prog f apart fresh handsOn again W args (.bool true) W':=by
 have hold: ∀p∈before,(fun b=>decide (b<W.heap.size)) p.block=true:=fun p hp=>by simpa using hW.lt p hp
 have aD: ∀p∈before,p.block<W.heap.size:=fun p hp=>hW.lt p hp;obtain ⟨p,q,hA,hV,pN,hz,hn⟩:=hW;have hWw:DataW.Whole enc Tryz.prog f.params.toList s.vars apart W args.toList ds gs before:=⟨p,q,hA,hV,pN,hz,hn⟩;rw [hv] at hV;obtain ⟨rfl,rfl⟩:=trodVars_none hV;rw [List.append_nil] at pN;subst pN
 have uM: ∀sp:Nat->Bool,(∀x∈before,sp x.block=true)->DataW.TrodAll enc Tryz.prog W' 0 sp true f.params.toList args.toList ds before:=fun sp iw=>
  Vy (DataW.TrodAll.respare kids full hT hA iw) fun x hx=>hb.same (aD x hx)
 have vy: ∀(b:Nat) (sp:Nat->Bool) (hd:Bool),DataW.TrodAll enc Tryz.prog W' b sp hd f.resultTypes.toList ((Value.bool true).resultList f.resultTypes.size) [.lit (.bool true)] []:=fun b sp hd=>by
  rw [hr];exact trodAll_mk1 (shut_bool Tryz.underlying4 _)
 refine ⟨ds,[],before,[],before,[],hWw,?_,?_,?_,hb.frame _,fun _=>?_⟩
 ·rw [hs];exact vy _ _ _
 ·rw [hs];exact uM _ hold
 ·rw [hv,hs];rfl
 ·refine ⟨?_,[.lit (.bool true)]++ds,[],[]++before,⟨[]++before,[],trodAll_append (uM _ (fun _ _=>rfl)) (vy _ _ _),?_,by simp,?_,?_⟩,?_⟩
  ·exact ok_one hr (by rfl) (okWide_bool_mk Tryz.underlying4 _)
  ·rw [hv];rfl
  ·intro b off hp;have l5:MemPlace.cell b off∈before:=by simpa using hp
   rw [hb.frozen (aD _ l5)];exact hz b off l5
  ·intro ha
   have:=hn ha
   simpa using this
  ·intro p hp _;simpa using hp
theorem Sx {w:World} {fuel:Nat} {v:Value} {x:DataW H×List MemPlace} (h:DataW.trod enc Tryz.prog w 0 (fun _=>true) true fuel 22 [v]=some x): ∃s:List Int,VR w (fun _=>False) ρ0 (fun _=>False) v (roI s):=by
 rcases open_ints Tryz.underlying22 Tryz.underlying3 (by kernel_rfl) h with ⟨hc,_⟩|⟨a,len,cap,zs,hc,_,hl,_,hz,_,jv,_⟩
 ·simp only [List.cons.injEq,and_true] at hc;subst hc;exact ⟨[], .ro 1 0 (.ints []) none 0 (fun _=>undef) rfl (zzA _) (by decide) (fun h=>absurd h (by decide)) (fun j hj=>by simp [Cs.len] at hj)⟩
 ·simp only [List.cons.injEq,and_true] at hc;subst hc;simp only [if_true] at hz;refine ⟨zs.take len,?_⟩;have e:(zs.take len).length=len:=by rw [List.length_take];omega
  unfold roI;rw [e];refine .ro 1 len (.ints (zs.take len)) (some a) cap (fun j=> .int .i64 (zs.getD j 0)) (by simp [Cs.len];omega) hl (by decide) (fun h0=>⟨a,rfl,?_,fun h=>h,fun j hj=>?_⟩) fun j hj=>?_
  ·have h1:=jv 0 (by omega);unfold World.cell? at h1;rw [show (a.add 0)=a from rfl] at h1
   split at h1
   ·rename_i hb;exact (Array.getElem?_eq_some_iff.1 hb).1
   ·cases h1
  ·exact jv j (by simp [Cs.len] at hj;omega)
  ·have jh:j<len:=by simp [Cs.len] at hj;omega
   simp only [Cs.get];rw [show (zs.take len).getD j 0=zs.getD j 0 by simp [zzB,List.getElem?_take,jh]];exact .int _ _
theorem y5v {w:World} {r:Reach} {b0:Nat} {v:Value} {d:DataW H} {p:List MemPlace} (hv:Value.okWide Tryz.prog w r b0 24 v) (h:DataW.Trod enc Tryz.prog w 0 (fun _=>true) true 24 v d p):
  ∃(s m:List Int) (L:Int),VR w (fun _=>False) ρ0 (fun _=>False) v (dgA s m L):=by
 obtain ⟨v0,v1,v2,y0,y1,y2,n,rfl,_,_,h0,h1,h2⟩:=open_agg3 Tryz.underlying24 (by kernel_rfl) (by kernel_rfl) hv h;obtain ⟨s,hs⟩:=Sx h0;obtain ⟨m,hm⟩:=Sx h1;obtain ⟨L,e,_⟩:=DataW.trod_int Tryz.underlying3 h2;simp only [List.cons.injEq,and_true] at e;subst e;refine ⟨s,m,L, .agg [v0,v1, .int .i64 L] [roI s,roI m,I L] rfl fun i u x hu hx=>?_⟩
 match i,hu,hx with
 |0,hu,hx=>simp at hu hx;subst hu hx;exact hs
 |1,hu,hx=>simp at hu hx;subst hu hx;exact hm
 |2,hu,hx=>simp at hu hx;subst hu hx;exact .int _ _
end
theorem own:ownKnob Tryz.prog.godebug=none:=by kernel_rfl
def ynv:List (String×DataW Unit):=[("math/bits.deBruijn32tab",Rows.laid_math_bits_deBruijn32tab),("math/bits.deBruijn64tab",Rows.laid_math_bits_deBruijn64tab),("internal/strconv.uint64pow10",Rows.laid_internal_strconv_uint64pow10)]
theorem QQ:Tryz.prog.globalNamed "internal/strconv.uint64pow10" =some 2:=by kernel_rfl
theorem ON:(Tryz.prog.globals[2]?).map (·.type)=some 207:=by kernel_rfl
theorem yr9 {W:World} (h:laidMetH Tryz.prog ynv W):Good W:=by
 rw [MakeChecks.laidMetH_plain _ _ _ (by kernel_rfl)] at h;obtain ⟨ps,⟨g0,t0,cs0,f0,p0,q0,hg0,zj,hv0,YN,⟨g1,t1,cs1,f1,p1,q1,BA,Yf,hv1,EE,⟨g2,t2,cs2,f2,p2,q2,Ap,Pz,hv2,C9,_,_⟩,_⟩,_⟩,_,_⟩:=h;obtain rfl:=Option.some.inj (QQ.symm.trans Ap);obtain rfl:=Option.some.inj (ON.symm.trans Pz);have e:(Rows.laid_internal_strconv_uint64pow10:DataW Unit)=Lib.tabData .u64 Lib.pow10Tab:=by rfl
 rw [e] at C9;unfold Good Lib.TabIs;rw [hv2,<-Lib.cells_of_tab Tryz.underlying207 Tryz.underlying149 (by kernel_rfl) (by kernel_rfl) C9]
theorem y4v (os:Os) (args:Array Value):laidMetH Tryz.prog ynv ((World.doorLaid Tryz.prog 400 os).forCall (fun _ _=>0) ⟨#[],args,[]⟩).memory:=
 laidMetH_of_parts3 (fuel:=8) (laidMet_of_run' 8 (by kernel_rfl) (by kernel_rfl)) (by kernel_rfl) (by kernel_rfl)
section
variable {H:Type} {enc:TypeId×Value->H}
theorem yx2 {w:World} {r:Reach} {b0 t:Nat} {v:Value} (hu: ∀fs,Tryz.prog.underlying t≠some (.struct fs)) (ha: ∀n e,Tryz.prog.underlying t≠some (.array n e)) (hv:Value.okWide Tryz.prog w r b0 t v):v.cells.toList=[v]:=by
 unfold Value.okWide at hv
 split at hv
 ·exact absurd ‹_› (hu _)
 ·exact absurd ‹_› (ha _ _)
 ·unfold Cell.okWide at hv;cases v<;>first|rfl|(exfalso;split at hv<;>simp_all [Cell.ok])
end
theorem y5w {H:Type} {enc:TypeId×Value->H} {w:World} {r:Reach} {b0:Nat} {v:Value} {d:DataW H} {p:List MemPlace} (hv:Value.okWide Tryz.prog w r b0 5 v) (h:DataW.Trod enc Tryz.prog w 0 (fun _=>true) true 5 v d p):
  ∃n:Int,(0<=n/\n<=255)/\VR w (fun _=>False) ρ0 (fun _=>False) v (.int .u8 n):=by
 obtain ⟨fuel,hf⟩:=h;rw [yx2 (fun fs=>by rw [Tryz.underlying5];simp) (fun n e=>by rw [Tryz.underlying5];simp) hv] at hf;obtain ⟨n,hc,_,hw⟩:=DataW.trod_int Tryz.underlying5 hf;simp only [List.cons.injEq,and_true] at hc;subst hc;refine ⟨n,?_, .int _ _⟩;simp [Lit.wf,IntKind.has,IntKind.min,IntKind.max,IntKind.bits,IntKind.signed] at hw;omega
end Go.Proofs.YtjpbeacamoijhaaGreatDoor
namespace Go.Proofs.YtjpbeacamoijhaaGreatDoor
open Go Go.RowKit
theorem Gf {x:AV} (h:p1 x=true):p2 x=true:=by cases x<;>first|rfl|cases h
theorem Ge {x:AV} (h:p1 x=true):p3 x=true:=by cases x<;>first|rfl|cases h
theorem Gd {x:AV} (H:Hp) (h:p1 x=true):s1 H x=true:=by cases x<;>first|rfl|cases h
theorem Gc {x:AV} (H:Hp) (h:p1 x=true):s2 H x=true:=by cases x<;>first|rfl|cases h
theorem y8b {x:AV} (H:Hp) (n:Nat) (h:p1 x=true):snap H (n+1) x=x:=by cases x<;>first|rfl|cases h
theorem y4w {x:AV} (H:Hp) (n:Nat) (h:p1 x=true):eT H (n+1) x:=by cases x<;>first|trivial|cases h
theorem Oo {x:AV} (H:Hp) (n:Nat) (h:p1 x=true):cy H (n+1) x=x:=by cases x<;>first|rfl|cases h
theorem y8c {x:AV} (H:Hp) (n:Nat) (h:p1 x=true):cC H (n+1) x:=by cases x<;>first|trivial|cases h
theorem Gg {x:AV} (id:Nat) (h:p1 x=true):n1 id x=true:=by cases x<;>first|rfl|cases h
section
variable {c:List AV} (h:c.all p1=true)
include h
theorem oE:c.all p2=true:=List.all_eq_true.2 fun x hx=>Gf (List.all_eq_true.1 h x hx)
theorem mY:c.all p3=true:=List.all_eq_true.2 fun x hx=>Ge (List.all_eq_true.1 h x hx)
theorem oD (H:Hp):c.all (s1 H)=true:=List.all_eq_true.2 fun x hx=>Gd H (List.all_eq_true.1 h x hx)
theorem lX (H:Hp):c.all (s2 H)=true:=List.all_eq_true.2 fun x hx=>Gc H (List.all_eq_true.1 h x hx)
theorem oC (i:Nat):c.all (n1 i)=true:=List.all_eq_true.2 fun x hx=>Gg i (List.all_eq_true.1 h x hx)
theorem mh (H:Hp) (n:Nat):c.map (snap H (n+1))=c:=by
 conv=>rhs;rw [<-List.map_id c]
 exact List.map_congr_left fun x hx=>y8b H n (List.all_eq_true.1 h x hx)
theorem mj (H:Hp) (n:Nat):(∀x∈c,eT H (n+1) x)=True:=eq_true fun x hx=>y4w H n (List.all_eq_true.1 h x hx)
theorem me (H:Hp) (n:Nat):c.map (cy H (n+1))=c:=by
 conv=>rhs;rw [<-List.map_id c]
 exact List.map_congr_left fun x hx=>Oo H n (List.all_eq_true.1 h x hx)
theorem mg (H:Hp) (n:Nat):(∀x∈c,cC H (n+1) x)=True:=eq_true fun x hx=>y8c H n (List.all_eq_true.1 h x hx)
end
def swI (i j n:Nat):Nat:=if n=i then j else if n=j then i else n
def swV (i j:Nat):Nat->AV->AV
 |0,x=>if p1 x then x else .any
 |n+1,x=>match x with
  | .sl es id off len=> .sl es (swI i j id) off len
  | .ptr id off=> .ptr (swI i j id) off
  | .mp id=> .mp (swI i j id)
  | .agg xs=> .agg (xs.map (swV i j n))
  | .tup xs=> .tup (xs.map (swV i j n))
  | .fn f xs=> .fn f (xs.map (swV i j n))
  |x=>x
def swO (i j:Nat):AObj->AObj
 | .cells t (.lst l)=> .cells t (.lst (l.map (swV i j 4)))
 | .imap t l=> .imap t (l.map fun q=>(q.1,swV i j 4 q.2))
 | .gmap t ck l=> .gmap t ck (l.map fun q=>(q.1,q.2.1,swV i j 4 q.2.2))
 | .iter m s sn la=> .iter (swI i j m) s sn la
 |o=>o
def swH (i j:Nat):Hp->Hp
 |[]=>[]
 |(k,o)::r=>(swI i j k,swO i j o)::swH i j r
def swF (i j:Nat):Fr->Fr
 |[]=>[]
 |(t,x)::r=>(t,swV i j 4 x)::swF i j r
section
variable {B:Nat} {w0:nN} {Mx:Nat->Prop} {N:Nat} {w:World} {ρ:Nat->Addr} {fr:Fr} {H:Hp} {a:Act}
end
attribute [go_sem] swI swV swO swH swF
section
variable {P:Program} {B:Nat} {w0:nN} {Mx:Nat->Prop} {N:Nat} {fr:Fr} {H:Hp}
theorem awO.of {o:Oper} {K:Fr->Hp->Prop} (hc:cvOk P o.op=true) (hq:quF P H (evA fr) o.op=none) (ha:alF P (hnew H) (evA fr) o.op=none) (hx:awX P N o fr H K):awO P N o fr H K:=by
 unfold awO;rw [hq,ha];exact ⟨hc,hx⟩
theorem Oper.jO {o:Oper} {a:Act} {w w':World} {v:Value} {K:Act->World->Prop} {Q:Exit->Act->World->Prop} (h:(execOp a.eval o).run P w= .ok (.value v) w') (hk:K (a.put o.dst v) w'):o.wp P a w K Q:=by
 unfold Oper.wp;rw [h];exact hk
theorem yun {w:World} {ty:TypeId} {r bm since c0:Nat} {seen:List Nat} {es:Array MapEntry} {clock:Nat} (hr:w.heap[r]?=some (.mapIter (some bm) since seen.toArray c0)) (hb:w.heap[bm]?=some (.map es clock)) (hold: ∀x∈es.toList,x.born<since) (jR:since<=c0) (ad:Addr) (had:ad.block=r/\ad.off=0):
  ((∀x∈es.toList,x.born∈seen)/\(Instr.next (.pointer (some ad)) false ty).run P w= .ok (.tuple #[.bool false]) w)\/
  ∃(j:Nat) (e:MapEntry) (w1:World),es[j]?=some e/\e.born∉seen/\(w1=w\/w1={w with drawn:=w.drawn+1})/\(Instr.next (.pointer (some ad)) false ty).run P w= .ok (.tuple #[.bool true,e.key,e.val]) {w1 with heap:=w1.heap.setIfInBounds r (.mapIter (some bm) since (seen++[e.born]).toArray clock)}:=by
 obtain ⟨ab,ao,asp⟩:=ad;obtain ⟨rfl,rfl⟩:=had;simp only [Instr.next,getObj,Sem.run_bind,Sem.run,hr,hb,Result.andThen,next_test_false seen.toArray es since c0 hold jR,Bool.false_eq_true,if_false];have nA: ∀x∈(Array.filter (fun e=> !seen.toArray.contains e.born) es).toList,x∈es.toList/\x.born∉seen:=fun x hx=>by simp at hx⊢;exact hx
 have cF:(Array.filter (fun e=> !seen.toArray.contains e.born) es)= #[]-> ∀x∈es.toList,x.born∈seen:=fun h x hx=>by
  rw [Array.filter_eq_empty_iff] at h
  have:=h x (by simpa using hx)
  simpa using this
 generalize Array.filter (fun e=> !seen.toArray.contains e.born) es=L at nA cF⊢;have e1:L.filter (fun x=>decide (x.born<since))=L:=Array.filter_eq_self.2 (fun x hx=>by simpa using hold x (nA x (by simpa using hx)).1);have e2:L.filter (fun x=>decide (x.born≥since))= #[]:=by
  rw [Array.filter_eq_empty_iff];intro x hx
  have:=hold x (nA x (by simpa using hx)).1
  simp;omega
 simp only [e1,e2,Array.append_empty];by_cases h0:L.size=0
 ·left
  have:L= #[]:=Array.eq_empty_of_size_eq_zero h0
  refine ⟨cF this,?_⟩;subst this;simp [choose,Sem.run,Question.forced]
 ·right;have aA:L.isEmpty=false:=by simp [Array.isEmpty,h0]
  simp only [aA,Bool.false_eq_true,if_false,Array.empty_append,Array.size_map];have pe: ∃(j:Nat) (w1:World),j<L.size/\(w1=w\/w1={w with drawn:=w.drawn+1})/\(if (Question.mapNext L.size).forced=true then (Result.ok 0 w:Result Nat) else Result.ok ((Question.mapNext L.size).cut (w.tape w.drawn (Question.mapNext L.size))) w.drew)= .ok j w1:=by
   by_cases hf:L.size<=1
   ·exact ⟨0,w,by omega, .inl rfl,by simp [Question.forced,hf]⟩
   ·refine ⟨_,w.drew,?_, .inr rfl,by rw [zzI (by simp [Question.forced,hf])]⟩;simp only [Question.cut];exact Nat.mod_lt _ (by omega)
  obtain ⟨j,w1,hj,Es,bd⟩:=pe;obtain ⟨m1,m2⟩:=nA L[j] (by simp);obtain ⟨i,hi,hie⟩:=List.mem_iff_getElem.1 m1;refine ⟨i,L[j],w1,?_,m2,Es,?_⟩
  ·rw [<-hie];simp at hi⊢
  ·have iM:w1.heap[ab]?=some (.mapIter (some bm) since seen.toArray c0):=by rcases Es with rfl|rfl<;>exact hr
   simp only [choose,Sem.run];by_cases hf:(Question.mapNext L.size).forced=true
   ·rw [zzJ hf] at bd⊢;injection bd with q1 q2;subst q1 q2;simp [hj,setObj,Sem.run,iM]
   ·rw [zzI hf] at bd⊢;injection bd with q1 q2;subst q2;simp only [q1];simp [hj,setObj,Sem.run,iM]
theorem uU.uA {o:Oper} {x:Operand} {iid mid since last t ck:Nat} {seen:List Nat} {l:List (ByteArray×Nat×AV)} {K:Fr->Hp->Prop} (ho:o.op= .next x false) (hd:dok o.dst N=true) (hx:evA fr x= .ptr iid 0) (hi:hget H iid=some (.iter mid since seen last)) (hm:hget H mid=some (.gmap t ck l))
  (hb: ∀q∈l,q.2.1<since) (cP:since<=last) (h1:(∀q∈l,q.2.1∈seen)->K (fput fr o.dst (.tup [.bool false])) H)
  (h2: ∀q∈l,q.2.1∉seen->K (fput fr o.dst (.tup [.bool true,gkA t q.1,q.2.2])) (hset H iid (.iter mid since (seen++[q.2.1]) ck))):uU P N o K fr H:=by
 intro B w0 Mx w ρ a hs Q;obtain ⟨i1,i2,i3⟩:=hs.objs iid _ hi;obtain ⟨es,g1,g2,g3⟩:=hs.objs mid _ hm;have ex:=(hx▸hs.ev x).jc.1;have Lf:(ρ iid).add 0=ρ iid:=rfl;rw [Lf] at ex;have hold: ∀e∈es.toList,e.born<since:=fun e he=>by
  obtain ⟨j,hj,rfl⟩:=List.mem_iff_getElem.1 he;have Al:j<l.length:=by rw [<-g2];simpa using hj
  obtain ⟨_,k2,_⟩:=g3 j _ l[j] (Array.getElem?_eq_getElem (by simpa using hj)) (zzH Al);show (es[j]'(by simpa using hj)).born<since;rw [k2];exact hb _ (List.getElem_mem Al)
 have Br:(execOp a.eval o).run P w=((Instr.next (.pointer (some (ρ iid))) false o.type).run P w).andThen fun v w'=> .ok (.value v) w':=by
  simp only [execOp,ho,ex];simp
 rcases yun (P:=P) (ty:=o.type) i3 g1 hold cP (ρ iid) ⟨rfl,i2⟩ with ⟨k1,k2⟩|⟨j,e,w1,k1,k2,k3,k4⟩
 ·refine Oper.jO (by rw [Br,k2];rfl) ⟨ρ,_,H,h1 fun q hq=>?_,hs.put hd (.tup [.bool false] [.bool false] rfl fun i v x hv hx=>?_)⟩
  ·obtain ⟨j,hj,rfl⟩:=List.mem_iff_getElem.1 hq;have Al:j<es.size:=by omega
   obtain ⟨_,q2,_⟩:=g3 j es[j] l[j] (by simp [Al]) (zzH hj);rw [<-q2];exact k1 _ (by simp)
  ·match i,hv,hx with
   |0,hv,hx=>cases hv;cases hx;exact .bool _
 ·have hj:j<es.size:=(Array.getElem?_eq_some_iff.1 k1).1;have Al:j<l.length:=by omega
  obtain ⟨q1,q2,q3⟩:=g3 j e l[j] k1 (zzH Al);have pM:aK B w0 Mx N w1 ρ fr H a:=by
   rcases k3 with rfl|rfl
   ·exact hs
   ·exact hs.draw
  have Pg:w1.heap[(ρ iid).block]?=some (.mapIter (some (ρ mid).block) since seen.toArray last):=by rcases k3 with rfl|rfl<;>exact i3
  have oX:=pM.x6 (b2:= .mapIter (some (ρ mid).block) since (seen++[e.born]).toArray ck) (o2:= .iter mid since (seen++[e.born]) ck) hi rfl rfl Pg (fun _ _=>by simp) fun M' hc=>⟨(BZ hi mid).2 i1,i2,by simp [iW Pg]⟩;have GY:VR w1 (MM Mx H ρ) ρ (DD H) e.val (l[j]).2.2:=by
   rcases k3 with rfl|rfl
   ·exact q3
   ·exact q3.carry (w':={w with drawn:=w.drawn+1}) (zzA _) (fun _ _ hm=>⟨rfl,hm⟩) (fun id hd=>⟨hd,rfl,fun arr t ha=>⟨arr,ha,rfl⟩⟩)
  have hval:VR {w1 with heap:=w1.heap.setIfInBounds (ρ iid).block (.mapIter (some (ρ mid).block) since (seen++[e.born]).toArray ck)} (MM Mx (hset H iid (.iter mid since (seen++[e.born]) ck)) ρ) ρ (DD (hset H iid (.iter mid since (seen++[e.born]) ck))) e.val (l[j]).2.2:=by
   refine GY.carry (by simp) (fun b hb hm=>?_) (fun i oK=>⟨(BZ hi i).2 oK,rfl,fun ar tt mP=>?_⟩)
   ·have aA:b≠(ρ iid).block:=fun e'=>hm (.inr ⟨iid,_,hi,rfl,e'.symm⟩);exact ⟨by show (w1.heap.setIfInBounds _ _)[b]?=_;rw [Array.getElem?_setIfInBounds_ne (Ne.symm aA)],fun hh=>hm ((Fu (o':= .iter mid since (seen++[e.born]) ck) hi rfl b).1 hh)⟩
   ·by_cases e':(ρ i).block=(ρ iid).block
    ·rw [e'] at mP;rw [Pg] at mP;cases mP
    ·exact ⟨ar,by show (w1.heap.setIfInBounds _ _)[(ρ i).block]?=_;rw [Array.getElem?_setIfInBounds_ne (Ne.symm e')];exact mP,rfl⟩
  refine Oper.jO (by rw [Br,k4];rfl) ⟨ρ,_,_,?_,oX.put hd (.tup [.bool true,e.key,e.val] [.bool true,gkA t (l[j]).1,(l[j]).2.2] rfl fun i v x hv hx=>?_)⟩
  ·have:=h2 l[j] (List.getElem_mem Al) (by rw [<-q2];exact k2)
   rw [<-q2] at this;exact this
  ·match i,hv,hx with
   |0,hv,hx=>cases hv;cases hx;exact .bool _
   |1,hv,hx=>cases hv;cases hx;exact RD q1
   |2,hv,hx=>cases hv;cases hx;exact hval
theorem uU.next {o:Oper} {x:Operand} {iid mid since last t ck:Nat} {seen:List Nat} {l:List (ByteArray×Nat×AV)} {K:Fr->Hp->Prop} (ho:o.op= .next x false) (hd:dok o.dst N=true) (hx:evA fr x= .ptr iid 0) (hi:hget H iid=some (.iter mid since seen last)) (hm:hget H mid=some (.gmap t ck l))
  (hb: ∀q∈l,q.2.1<since) (cP:since<=last) (h1:(∀q∈l,q.2.1∈seen)->K (fput fr o.dst (.tup [.bool false])) H)
  (h2: ∀q∈l,q.2.1∉seen->K (fput fr o.dst (.tup [.bool true, .str q.1,q.2.2])) (hset H iid (.iter mid since (seen++[q.2.1]) ck))) (ht:t<1000000000):uU P N o K fr H:=
 uU.uA ho hd hx hi hm hb cP h1 fun q hq hs=>by unfold gkA;rw [zzJ ht];exact h2 q hq hs
theorem VR.O8 {w:World} {M:Nat->Prop} {ρ:Nat->Addr} {D:Nat->Prop} {v:Value} {id:Nat} (h:VR w M ρ D v (.mp id)):D id:=by cases h;assumption
theorem uU.range {o:Oper} {x:Operand} {xt kt et mid t ck:Nat} {l:List (ByteArray×Nat×AV)} {K:Fr->Hp->Prop} (ho:o.op= .range xt x) (hd:dok o.dst N=true) (fm:tk P xt= .map kt et) (hx:evA fr x= .mp mid) (hm:hget H mid=some (.gmap t ck l))
  (h:K (fput fr o.dst (.ptr (hnew H) 0)) ((hnew H, .iter mid ck [] ck)::H)):uU P N o K fr H:=by
 intro B w0 Mx w ρ a hs Q;obtain ⟨es,g1,g2,g3⟩:=hs.objs mid _ hm;have ex:=(hx▸hs.ev x).eI;have hn:hget H (hnew H)=none:=Ee (zzA _);have G4:mid≠hnew H:=fun e=>by rw [<-e,hm] at hn;cases hn
 have oX:=hs.alloc (hnew H) hn (.mapIter (some (ρ mid).block) ck #[] ck) (.iter mid ck [] ck) fun M' ρ' D' hr hc=>by
  have h0:=hc (D:=DD H) (fun _ h=>h) (VR.mp (w:=w) (M:=MM Mx H ρ) (ρ:=ρ) mid ⟨_,hm⟩);have h1:=h0.eI;simp only [Value.map.injEq,Option.some.injEq] at h1;exact ⟨h0.O8,by rw [hr],by rw [hr,<-h1];exact sR⟩
 ·refine Oper.jO (v:= .pointer (some ⟨w.heap.size,0,none⟩)) (w':=w.alloc (.mapIter (some (ρ mid).block) ck #[] ck)) ?_ ⟨_,_,_,h,oX.put hd ?_⟩
  ·simp only [execOp,ho,ex];simp [Instr.range,run_underlying (qo fm),getObj,Sem.run,g1,newObj]
  ·have:=VR.ptr (w:=w.alloc (.mapIter (some (ρ mid).block) ck #[] ck)) (M:=MM Mx ((hnew H, .iter mid ck [] ck)::H) (aR ρ (hnew H) ⟨w.heap.size,0,none⟩)) (ρ:=aR ρ (hnew H) ⟨w.heap.size,0,none⟩) (D:=DD ((hnew H,AObj.iter mid ck [] ck)::H)) (hnew H) 0 BW
   rwa [bQ] at this
end
section
variable {P:Program} {N:Nat} {fr:Fr} {H:Hp} {K:Fr->Hp->Prop} {o:Oper}
theorem uU.makeMap {t kt et:Nat} {r:Operand} {n:Int} (ho:o.op= .makeMap t (some r)) (hd:dok o.dst N=true) (fm:tk P t= .map kt et) (hr:evA fr r=I n) (h:K (fput fr o.dst (.mp (hnew H))) ((hnew H,mkM P t)::H)):uU P N o K fr H:=by
 intro B w0 Mx w ρ a hs Q;have er:=(hr▸hs.ev r).aq;have hn:hget H (hnew H)=none:=Ee (zzA _);have bd:(execOp a.eval o).run P w= .ok (.value (.map (some w.heap.size))) (w.alloc (.map #[] 0)):=by
  simp only [execOp,ho];simp [Instr.makeMap,run_underlying (qo fm),asInt,asIntOf,newObj,Sem.run,er]
 have oX:=hs.alloc (hnew H) hn (.map #[] 0) (mkM P t) fun M' ρ' D' hr _=>by
  rcases UK P t with e|e|e|e|e|e<;>rw [e]
  ·exact ⟨by simp, #[],0,by rw [hr];exact sR,rfl,by simp⟩
  ·exact ⟨[], #[],0,by rw [hr];exact sR,rfl,fun _=>rfl⟩
  ·exact ⟨[], #[],0,by rw [hr];exact sR,rfl,fun _=>rfl⟩
  ·exact ⟨#[],by rw [hr];exact sR,rfl,fun j e q he=>by simp at he⟩
  ·exact ⟨#[],by rw [hr];exact sR,rfl,fun j e q he=>by simp at he⟩
  ·exact ⟨[], #[],0,by rw [hr];exact sR,rfl,fun _=>rfl⟩
 refine Oper.jO bd ⟨_,_,_,h,oX.put hd ?_⟩
 have:=VR.mp (w:=w.alloc (.map #[] 0)) (M:=MM Mx ((hnew H,mkM P t)::H) (aR ρ (hnew H) ⟨w.heap.size,0,none⟩)) (ρ:=aR ρ (hnew H) ⟨w.heap.size,0,none⟩) (D:=DD ((hnew H,mkM P t)::H)) (hnew H) BW
 rwa [bQ] at this
theorem qD.Ky {ops:Array Oper} {r:List Oper} (hc:cvOk P o.op=true) (hq:quF P H (evA fr) o.op=none) (ha:alF P (hnew H) (evA fr) o.op=none) (hx:awX P N o fr H fun fr' H'=>awL P N ops r fr' H' K):qD P N ops fr H K o r:=⟨awO.of hc hq ha hx⟩
theorem qD.uA {ops:Array Oper} {r:List Oper} {x:Operand} {iid mid since last t ck:Nat} {seen:List Nat} {l:List (ByteArray×Nat×AV)} (ho:o.op= .next x false) (hd:dok o.dst N=true) (hx:evA fr x= .ptr iid 0) (hi:hget H iid=some (.iter mid since seen last)) (hm:hget H mid=some (.gmap t ck l))
  (hb: ∀q∈l,q.2.1<since) (cP:since<=last) (h1:(∀q∈l,q.2.1∈seen)->awL P N ops r (fput fr o.dst (.tup [.bool false])) H K)
  (h2: ∀q∈l,q.2.1∉seen->awL P N ops r (fput fr o.dst (.tup [.bool true,gkA t q.1,q.2.2])) (hset H iid (.iter mid since (seen++[q.2.1]) ck)) K):qD P N ops fr H K o r:=by
 refine qD.Ky ?_ ?_ ?_ ?_
 ·rw [ho];rfl
 ·rw [ho];rfl
 ·rw [ho];rfl
 ·unfold awX;rw [ho];exact ⟨rfl,uU.uA (K:=fun fr' H'=>awL P N ops r fr' H' K) ho hd hx hi hm hb cP h1 h2⟩
theorem qD.range {ops:Array Oper} {r:List Oper} {x:Operand} {xt kt et mid t ck:Nat} {l:List (ByteArray×Nat×AV)} (ho:o.op= .range xt x) (hd:dok o.dst N=true) (fm:tk P xt= .map kt et) (hx:evA fr x= .mp mid) (hm:hget H mid=some (.gmap t ck l))
  (h:awL P N ops r (fput fr o.dst (.ptr (hnew H) 0)) ((hnew H, .iter mid ck [] ck)::H) K):qD P N ops fr H K o r:=by
 refine qD.Ky ?_ ?_ ?_ ?_
 ·rw [ho];rfl
 ·rw [ho];rfl
 ·rw [ho];rfl
 ·unfold awX;rw [ho];exact ⟨rfl,uU.range (K:=fun fr' H'=>awL P N ops r fr' H' K) ho hd fm hx hm h⟩
theorem qD.makeMap {ops:Array Oper} {r:List Oper} {t kt et:Nat} {x:Operand} {n:Int} (ho:o.op= .makeMap t (some x)) (hd:dok o.dst N=true) (fm:tk P t= .map kt et) (hr:evA fr x=I n) (h:awL P N ops r (fput fr o.dst (.mp (hnew H))) ((hnew H,mkM P t)::H) K):qD P N ops fr H K o r:=by
 refine qD.Ky ?_ ?_ ?_ ?_
 ·rw [ho];rfl
 ·rw [ho];rfl
 ·rw [ho];rfl
 ·unfold awX;rw [ho];exact ⟨rfl,uU.makeMap (K:=fun fr' H'=>awL P N ops r fr' H' K) ho hd fm hr h⟩
end
end Go.Proofs.YtjpbeacamoijhaaGreatDoor
namespace Go.Proofs.YtjpbeacamoijhaaGreatDoor
def nz (l:List (Int×Int)):List (Int×Int):=l.filter fun t=>t.2 !=0
def tmI:Int->List Int->List (Int×Int)
 |_,[]=>[]
 |e,c::r=>if c=0 then tmI (e+1) r else (e,c)::tmI (e+1) r
def cfL:List (Int×Int)->Int->Int
 |[],_=>0
 |t::p,e=>(if t.1=e then t.2 else 0)+cfL p e
structure fi (p:List (Int×Int)):Prop where
 asc:p.Pairwise fun a b=>a.1<b.1
 nz: ∀t∈p,t.2≠0
theorem JG (p q:List (Int×Int)) (e:Int):cfL (p++q) e=cfL p e+cfL q e:=by
 induction p with
 |nil=>simp [cfL]
 |cons t p ih=>simp only [List.cons_append,cfL,ih];omega
theorem TQ {p:List (Int×Int)} {e:Int} (h: ∀t∈p,t.1≠e):cfL p e=0:=by
 induction p with
 |nil=>rfl
 |cons t p ih=>
  simp only [cfL];rw [zzI (h t (zzD ..)),ih fun u hu=>h u (zzE _ hu)];rfl
theorem fi.tail {t:Int×Int} {p:List (Int×Int)} (h:fi (t::p)):fi p:=⟨(List.pairwise_cons.1 h.asc).2,fun u hu=>h.nz u (zzE _ hu)⟩
theorem fi.head {t:Int×Int} {p:List (Int×Int)} (h:fi (t::p)): ∀u∈p,t.1<u.1:=(List.pairwise_cons.1 h.asc).1
theorem fi.nil:fi []:=⟨.nil,fun _ h=>by cases h⟩
theorem Fi {p:List (Int×Int)} (h:fi p) {t:Int×Int} (ht:t∈p):cfL p t.1=t.2:=by
 induction p with
 |nil=>cases ht
 |cons u p ih=>
  simp only [cfL];rcases List.mem_cons.1 ht with rfl|ht
  ·rw [zzJ rfl,TQ fun v hv=>by have:=h.head v hv;omega];omega
  ·rw [zzI (by have:=h.head t ht;omega),ih h.tail ht];omega
theorem Xn {p:List (Int×Int)} {e:Int} (h:cfL p e≠0): ∃t∈p,t.1=e:=by
 induction p with
 |nil=>exact absurd rfl h
 |cons t p ih=>
  by_cases ht:t.1=e
  ·exact ⟨t,zzD ..,ht⟩
  ·simp only [cfL,zzI ht,Int.zero_add] at h;obtain ⟨u,hu,e2⟩:=ih h;exact ⟨u,zzE _ hu,e2⟩
theorem fi.ext: ∀{p q:List (Int×Int)},fi p->fi q->(∀e,cfL p e=cfL q e)->p=q
 |[],[],_,_,_=>rfl
 |[],t::q,_,hq,h=>by
  have:=h t.1
  rw [Fi hq (zzD ..)] at this;exact absurd this.symm (hq.nz t (zzD ..))
 |t::p,[],hp,_,h=>by
  have:=h t.1
  rw [Fi hp (zzD ..)] at this;exact absurd this (hp.nz t (zzD ..))
 |t::p,u::q,hp,hq,h=>by
  have m1:cfL (t::p) t.1=t.2:=Fi hp (zzD ..);have m2:cfL (u::q) u.1=u.2:=Fi hq (zzD ..);have n1:=hp.nz t (zzD ..);have n2:=hq.nz u (zzD ..);have e1:t.1=u.1:=by
   obtain ⟨v,hv,ev⟩:=Xn (p:=u::q) (e:=t.1) (by rw [<-h,m1];exact n1);obtain ⟨w,hw,ew⟩:=Xn (p:=t::p) (e:=u.1) (by rw [h,m2];exact n2);rcases List.mem_cons.1 hv with rfl|hv
   ·exact ev.symm
   ·rcases List.mem_cons.1 hw with rfl|hw
    ·exact ew
    ·have:=hq.head v hv
     have:=hp.head w hw
     omega
  have e2:t.2=u.2:=by rw [<-m1,<-m2,h,e1]
  have et:t=u:=Prod.ext e1 e2;subst et;rw [fi.ext hp.tail hq.tail fun e=>by have:=h e;simp only [cfL] at this;omega]
theorem Sw: ∀(e:Int) (l:List Int),∀t∈tmI e l,e<=t.1/\t.1<e+l.length
 |_,[],t,ht=>by cases ht
 |e,c::r,t,ht=>by
  simp only [tmI] at ht;have key:t∈tmI (e+1) r->e<=t.1/\t.1<e+(c::r).length:=fun h=>by
   have:=Sw (e+1) r t h
   simp only [zzG];omega
  split at ht
  ·exact key ht
  ·rcases List.mem_cons.1 ht with rfl|ht
   ·simp only [zzG];omega
   ·exact key ht
theorem Sv: ∀(e:Int) (l:List Int),fi (tmI e l)
 |_,[]=> .nil
 |e,c::r=>by
  have ih:=Sv (e+1) r;simp only [tmI]
  split
  ·exact ih
  ·rename_i h
   refine ⟨List.pairwise_cons.2 ⟨fun u hu=>by have:=Sw (e+1) r u hu;show e<u.1;omega,ih.asc⟩,fun u hu=>?_⟩;rcases List.mem_cons.1 hu with rfl|hu
   ·exact h
   ·exact ih.nz u hu
theorem Su: ∀(e:Int) (l:List Int) (x:Int),cfL (tmI e l) x=if e<=x then l.getD (x-e).toNat 0 else 0
 |e,[],x=>by simp [tmI,cfL]
 |e,c::r,x=>by
  have ih:=Su (e+1) r x;by_cases hx:e=x
  ·subst hx;rw [zzI (by omega)] at ih;simp only [tmI]
   split
   ·rename_i h;rw [ih,zzJ (Int.le_refl _)];simp [h]
   ·simp only [cfL,ih];simp
  ·have k:cfL (tmI e (c::r)) x=cfL (tmI (e+1) r) x:=by
    simp only [tmI]
    split
    ·rfl
    ·simp only [cfL];rw [zzI hx];omega
   rw [k,ih];by_cases hl:e+1<=x
   ·rw [zzJ hl,zzJ (by omega)];obtain ⟨d,hd⟩: ∃d:Nat,x=e+1+d:=⟨(x-e-1).toNat,by omega⟩;rw [hd,show (e+1+(d:Int)-e).toNat=d+1 by omega,show (e+1+(d:Int)-(e+1)).toNat=d by omega,List.getD_cons_succ]
   ·rw [zzI hl,zzI (by omega)]
theorem On (l:List (Int×Int)) (e:Int):cfL (nz l) e=cfL l e:=by
 induction l with
 |nil=>rfl
 |cons t l ih=>
  unfold nz at ih⊢;by_cases h:t.2=0
  ·rw [List.filter_cons_of_neg (by simp [h]),ih];simp only [cfL,h];split<;>omega
  ·rw [List.filter_cons_of_pos (by simp [h])];simp only [cfL,ih]
theorem Ol {l:List (Int×Int)} (h:l.Pairwise fun a b=>a.1<b.1):fi (nz l):=by
 refine ⟨List.Pairwise.filter _ h,fun t ht=>?_⟩
 have:=(List.mem_filter.1 ht).2
 simpa using this
def cvL (p:List (Int×Int)) (g:Int->Int) (e:Int):Int:=match p with
 |[]=>0
 |t::p=>t.2*g (e-t.1)+cvL p g e
theorem A4 (l:List Int) (i j:Nat) (v:Int) (hi:i<l.length):(l.set i v).getD j 0=if i=j then v else l.getD j 0:=by
 by_cases h:i=j
 ·subst h;simp [hi]
 ·rw [zzI h];simp [zzB,List.getElem?_set_ne h]
theorem TP {p:List (Int×Int)} {g:Int->Int} {e:Int} (h: ∀t∈p,g (e-t.1)=0):cvL p g e=0:=by
 induction p with
 |nil=>rfl
 |cons t p ih=>simp only [cvL,h t (zzD ..),ih fun u hu=>h u (zzE _ hu)];simp
theorem MH {p:List (Int×Int)} {i:Nat} (hi:i<p.length):p.getD i (0,0)∈p:=by
 simp [zzB,zzH hi]
def bA (a z:Int):Int:=a*16777216+z
def aB (e:Int):Int:=(e+8388608)% 16777216-8388608
def aJ (e:Int):Int:=(e-aB e)/16777216
theorem nM {a z:Int} (h: -8388608<=z/\z<8388608):aB (bA a z)=z:=by unfold aB bA;omega
theorem rn {a z:Int} (h: -8388608<=z/\z<8388608):aJ (bA a z)=a:=by unfold aJ;rw [nM h];unfold bA;omega
theorem rm (e:Int):bA (aJ e) (aB e)=e:=by unfold aJ bA aB;omega
theorem Fh (e:Int): -8388608<=aB e/\aB e<8388608:=by unfold aB;omega
theorem Oj {a z a' z':Int} (h: -8388608<=z/\z<8388608) (h': -8388608<=z'/\z'<8388608):bA a z<bA a' z'↔a<a'\/a=a'/\z<z':=by unfold bA;omega
theorem VY (e e':Int):e<e'↔aJ e<aJ e'\/aJ e=aJ e'/\aB e<aB e':=by
 have:=Oj (Fh e) (Fh e') (a:=aJ e) (a':=aJ e')
 rwa [rm,rm] at this
theorem MG (a z a' z':Int):bA a z+bA a' z'=bA (a+a') (z+z'):=by unfold bA;omega
def re (e:Int):Prop:=(-1048576<=aJ e/\aJ e<=1048576)/\ -1048576<=aB e/\aB e<=1048576
theorem ME {e e':Int} (h:re e) (h':re e'):aJ (e+e')=aJ e+aJ e'/\aB (e+e')=aB e+aB e':=by
 have h1:=MG (aJ e) (aB e) (aJ e') (aB e');rw [rm,rm] at h1;unfold re at h h';rw [h1,rn (by omega),nM (by omega)];exact ⟨rfl,rfl⟩
open Go Go.RowKit
set_option maxRecDepth 100000
set_option maxHeartbeats 8000000
theorem wQ (v l:Int) (h0:0<=l) (h1:l<=4611686018427387904):Fn Tryz.prog 78 [I v,I l] (.bool (decide (-l<=v)&&decide (v<=l))):=by
 obtain ⟨b1,e1⟩: ∃b,decide (-l<=v)=b:=⟨_,rfl⟩;obtain ⟨b2,e2⟩: ∃b,decide (v<=l)=b:=⟨_,rfl⟩;rw [e1,e2];have e3:decide (0-l<=v)=b1:=by rw [<-e1];exact decide_eq_decide.2 (by omega)
 refine Fn.intro [.tmp 4] Tryz.func78 rfl rfl (by decide) (by simp [Tryz.ntmps78]) ?_;rw [Tryz.ntmps78];cases b1<;>cases b2
 all_goals (repeat' (first|omega|(try apply ah);simp only [go_sem,sevalprocAttr,e3,e2]|apply ag<;>(intro h_;(try simp only [h_]);revert h_)|apply zzL|with_reducible intro h_|trivial|simp only [go_sem,ai];omega))
def nH (x y:Int):Int:=if x<y then-1 else if y<x then 1 else 0
theorem Xm (v:Int) (hv:InI v):E5 v 33554431=v % 33554432:=by
 unfold E5;have h1:(BitVec.ofInt 64 v&&&BitVec.ofInt 64 33554431).toNat=(v % 33554432).toNat:=by
  rw [BitVec.toNat_and];have e2:(BitVec.ofInt 64 33554431).toNat=2^25-1:=by decide
  have e1:(BitVec.ofInt 64 v).toNat=(v % 18446744073709551616).toNat:=by rw [BitVec.toNat_ofInt];rfl
  rw [e2,Nat.and_two_pow_sub_one_eq_mod,e1];omega
 rw [h1,Ug (by unfold InI;omega)];omega
theorem Kg (h l v:Int) (hh: -4611686018427387904<=h/\h<=4611686018427387904) (hl:0<=l/\l<=4611686018427387904) (hv:InI v):Fn Tryz.prog 71 [.agg [I h,I l],I v] (.agg [I (h+v/33554432),I (l+v % 33554432)]):=by
 have hv2:=Xm v hv;unfold InI at hv;refine Fn.intro [.cell 4 107] Tryz.func71 rfl rfl (by decide) (by simp [Tryz.ntmps71]) ?_;rw [Tryz.ntmps71]
 repeat' (first|omega|(try apply ah);simp only [go_sem,sevalprocAttr,hv2]|apply ag<;>(intro h_;(try simp only [h_]);revert h_)|apply zzL|with_reducible intro h_|trivial|simp only [go_sem,ai];omega)
def Xl:List (List Nat):=[[9,10,11,13,14,15],[9,10,11,13,14,15],[7,8,13,14,15],[7,8,13,14,15],[7,8,13,14,15],[13,14,15],[7,8,9,10,11,12,4],[7,8,9,10,11,12,4],[7,8,9,10,11,12,4],[13,14,15],[]]
def Xk:List (List Nat):=[[],[],[0,1],[0,1],[0,1],[],[0,1,2,3,4,5],[0,1,2,3,4,5],[0,1,2,3,4,5],[6,7,8],[]]
def bvC:List (Int×Int)->List AV
 |[]=>[]
 |t::r=>I (aJ t.1)::I (aB t.1)::I t.2::bvC r
theorem pU: ∀p:List (Int×Int),(bvC p).length=3*p.length
 |[]=>rfl
 |t::r=>by simp only [bvC,zzG,pU r];omega
theorem MD: ∀p q:List (Int×Int),bvC (p++q)=bvC p++bvC q
 |[],_=>rfl
 |t::r,q=>by simp only [List.cons_append,bvC,MD r q]
theorem A2: ∀(p:List (Int×Int)) (i:Nat),i<p.length->(bvC p).getD (i*3) .any=I (aJ (p.getD i (0,0)).1)/\(bvC p).getD (i*3+1) .any=I (aB (p.getD i (0,0)).1)/\(bvC p).getD (i*3+2) .any=I (p.getD i (0,0)).2
 |[],i,h=>by simp at h
 |t::r,0,_=>⟨rfl,rfl,rfl⟩
 |t::r,i+1,h=>by
  have ih:=A2 r i (by simpa using h);simp only [bvC];rw [show (i+1)*3=i*3+1+1+1 by omega,show i*3+1+1+1+1=i*3+1+1+1+1 from rfl,show i*3+1+1+1+2=i*3+2+1+1+1 by omega];simp only [List.getD_cons_succ];exact ih
theorem eG (H:Hp): ∀p:List (Int×Int),(bvC p).all (s3 H)=true
 |[]=>rfl
 |t::r=>by simp only [bvC,List.all_cons,eG H r,Bool.and_true];rfl
abbrev pD (p:List (Int×Int)):AV:= .ro 3 p.length (.lst (bvC p))
abbrev iy (b:Bool) (p:List (Int×Int)):AV:= .agg [.bool b,pD p]
theorem yuo (h l:Int) (hh: -4611686018427387904<=h/\h<=4611686018427387904) (hl:0<=l/\l<=4611686018427387904) (hv: -1125899906842624<=h*33554432+l/\h*33554432+l<=1125899906842624):Fn Tryz.prog 111 [.agg [I h,I l]] (.tup [I (h*33554432+l), .bool true]):=by
 have EA:=Xm l (by unfold InI;omega);obtain ⟨g,hg⟩: ∃g,g=h+l/33554432:=⟨_,rfl⟩;obtain ⟨r,hr⟩: ∃r,r=l % 33554432:=⟨_,rfl⟩;rw [<-hr] at EA;have hS:g*33554432+r=h*33554432+l:=by omega
 have hgb: -67108864<=g/\g<=67108864:=by omega
 have h1:=wQ g 67108864 (by decide) (by decide);have h2:=wQ (h*33554432+l) 1125899906842624 (by decide) (by decide);rw [decide_eq_true (by omega),decide_eq_true (by omega),Bool.and_self] at h1 h2;refine Fn.aG [.tmp 2, .tmp 3] Tryz.func111 rfl rfl (by decide) (by simp [Tryz.ntmps111]) ?_;rw [Tryz.ntmps111];have eg:h+l/2^25=g:=by rw [hg];rfl
 have eg2:h+l/33554432=g:=hg.symm;have eS:g*2^25+r=h*33554432+l:=by rw [<-hS];rfl
 repeat' (first|omega|(first|apply ah|(refine ba.intro (id:=1) Xl Xk (by decide+kernel) mixed ?_)|skip);simp only [go_sem,sevalprocAttr,EA,eg,eg2,↓reduceIte,reduceCtorEq,Xl,Xk]|apply ag<;>(intro h_;(try simp only [h_]);revert h_)|apply zzL|with_reducible intro h_|trivial|simp only [go_sem,ai];omega)
 refine ⟨aL.fn rfl h1 ?_⟩
 repeat' (first|omega|(try apply ah);simp only [go_sem,sevalprocAttr,eS,hS]|apply ag<;>(intro h_;(try simp only [h_]);revert h_)|apply zzL|with_reducible intro h_|trivial|simp only [go_sem,ai];omega)
 refine ⟨aL.fn rfl h2 ?_⟩
 repeat' (first|omega|(try apply ah);simp only [go_sem,sevalprocAttr]|apply ag<;>(intro h_;(try simp only [h_]);revert h_)|apply zzL|with_reducible intro h_|trivial|simp only [go_sem,ai];omega)
 all_goals exact bE.refl _
theorem Fs (c a z:Int) (hc:c≠0) (qX: -1125899906842624<=c/\c<=1125899906842624) (ha: -1048576<=a/\a<=1048576) (hz: -1048576<=z/\z<=1048576):Fn Tryz.prog 29 [I c,I a,I z] (iy false [(bA a z,c)]):=by
 have eA:aJ (bA a z)=a:=rn (by omega);have eZ:aB (bA a z)=z:=nM (by omega);have h1:=wQ c 1125899906842624 (by decide) (by decide);have h2:=wQ a 1048576 (by decide) (by decide);have h3:=wQ z 1048576 (by decide) (by decide);rw [decide_eq_true (by omega),decide_eq_true (by omega),Bool.and_self] at h1 h2 h3;have bc:(c==0)=false:=by rw [zzU];exact hc
 refine Fn.aG [.cell 6 29] Tryz.func29 rfl rfl (by decide) (by simp [Tryz.ntmps29]) ?_;rw [Tryz.ntmps29]
 repeat' (first|omega|(try apply ah);simp only [go_sem,sevalprocAttr,bc]|(refine ⟨aL.fn (r:=?_) rfl ?_ ?_⟩;rotate_left;assumption)|(refine ⟨bS.fn (r:=?_) rfl ?_ ?_⟩;rotate_left;assumption)|apply ag<;>(intro h_;(try simp only [h_]);revert h_)|apply zzL|with_reducible intro h_|trivial|simp only [go_sem,ai];omega)
 all_goals exact bE.of (by show _=AV.agg [.bool false, .ro 3 1 (.lst [I (aJ (bA a z)),I (aB (bA a z)),I c])];rw [eA,eZ])
def kv (d:Int) (p:List (Int×Int)):List (Int×Int):=p.map fun t=>(t.1+d,t.2)
theorem y4x (d:Int) (p q:List (Int×Int)):kv d (p++q)=kv d p++kv d q:=by simp [kv]
theorem TN (d:Int) (p:List (Int×Int)):(kv d p).length=p.length:=by simp [kv]
theorem Ig {e a z:Int} (h: -4194304<=aB e+z/\aB e+z<=4194304):aJ (e+bA a z)=aJ e+a/\aB (e+bA a z)=aB e+z:=by
 have h1:=MG (aJ e) (aB e) a z;rw [rm] at h1;rw [h1,rn (by omega),nM (by omega)];exact ⟨rfl,rfl⟩
theorem MC {f:AV->AV} (hf: ∀x:Int,f (I x)=I x): ∀p:List (Int×Int),(bvC p).map f=bvC p
 |[]=>rfl
 |t::r=>by simp only [bvC,List.map_cons,hf,MC hf r]
theorem St (id:Nat) (p:List (Int×Int)):(bvC p).map (cutV id)=bvC p:=MC (fun _=>rfl) p
theorem TM (H:Hp) (n:Nat) (p:List (Int×Int)):(bvC p).map (snap H (n+1))=bvC p:=MC (fun _=>rfl) p
theorem Ss {x:AV}: ∀{p:List (Int×Int)},x∈bvC p-> ∃n,x=I n
 |[],h=>by cases h
 |t::r,h=>by
  simp only [bvC,List.mem_cons] at h;rcases h with h|h|h|h
  ·exact ⟨_,h⟩
  ·exact ⟨_,h⟩
  ·exact ⟨_,h⟩
  ·exact Ss h
theorem Kb (H:Hp) (n:Nat) {p:List (Int×Int)} {x:AV} (h:x∈bvC p):eT H (n+1) x:=by
 obtain ⟨m,rfl⟩:=Ss h;trivial
theorem Ka (p:List (Int×Int)) (a z:Int) (hp:p.length<=100000) (ha: -2097152<=a/\a<=2097152) (hz: -2097152<=z/\z<=2097152) (hb: ∀t∈p,(-1048576<=aJ t.1+a/\aJ t.1+a<=1048576)/\ -1048576<=aB t.1+z/\aB t.1+z<=1048576):
  Fn Tryz.prog 42 [iy false p,I a,I z] (iy false (kv (bA a z) p)):=by
 have hc:=pU p;by_cases h0:p.length=0
 ·obtain rfl:p=[]:=zzQ h0;refine Fn.aG [.cell 6 29] Tryz.func42 rfl rfl (by decide) (by simp [Tryz.ntmps42]) ?_;rw [Tryz.ntmps42]
  repeat' (first|omega|(try apply ah);simp only [go_sem,sevalprocAttr]|apply ag<;>(intro h_;(try simp only [h_]);revert h_)|apply zzL|with_reducible intro h_|trivial|simp only [go_sem,ai];omega)
  all_goals exact bE.refl _
 have b0:((p.length:Int)==0)=false:=by rw [zzU];omega
 have h1:=wQ a 2097152 (by decide) (by decide);have h2:=wQ z 2097152 (by decide) (by decide);rw [decide_eq_true (by omega),decide_eq_true (by omega),Bool.and_self] at h1 h2;refine Fn.aG [.cell 6 29] Tryz.func42 rfl rfl (by decide) (by simp [Tryz.ntmps42]) ?_;rw [Tryz.ntmps42]
 repeat' (first|omega|(try apply ah);simp only [go_sem,sevalprocAttr,b0,hc]|(refine ⟨aL.fn (r:=?_) rfl ?_ ?_⟩;rotate_left;assumption)|(refine ⟨bS.fn (r:=?_) rfl ?_ ?_⟩;rotate_left;assumption)|apply ag<;>(intro h_;(try simp only [h_]);revert h_)|apply zzL|with_reducible intro h_|trivial|simp only [go_sem,ai];omega)
 refine cN.intro (fun n fr H=> ∃k:Nat,k<=p.length/\n=p.length-k/\fr=[(36,I k),(35,I p.length),(34,pD p),(7, .ptr 3 0),(6, .ptr 1 0),(1,I a),(2,I z)]/\
  H=[(3, .cells 29 (.lst [.bool false, .sl 3 2 0 k])),(2, .cells 74 (.lst (bvC (kv (bA a z) (p.take k))))),(1, .cells 29 (.lst [.bool false, .nils]))]) ?_ ?_
 ·refine ⟨_,_,_,Wk.sub ?_ ?_,0,by omega,rfl,rfl,rfl⟩
  ·simp only [go_sem,sevalprocAttr,eG]
  ·simp only [go_sem,sevalprocAttr,eG,List.take_zero,kv,List.map_nil,bvC]
   all_goals rfl
 rintro n fr H ⟨k,hk,rfl,rfl,rfl⟩;have hl:(bvC (kv (bA a z) (p.take k))).length=3*k:=by rw [pU,TN,List.length_take];omega
 by_cases cJ:k<p.length
 ·have bk:decide ((k:Int)<p.length)=true:=by simp;omega
  obtain ⟨g0,g1,g2⟩:=A2 p k cJ;have ht:=hb (p.getD k (0,0)) (by rw [zzB,zzH cJ];exact List.getElem_mem _);have et:p.take (k+1)=p.take k++[p.getD k (0,0)]:=by rw [List.take_succ_eq_append_getElem cJ];simp [cJ]
  have es:bvC (kv (bA a z) (p.take (k+1)))=bvC (kv (bA a z) (p.take k))++[I (aJ (p.getD k (0,0)).1+a),I (aB (p.getD k (0,0)).1+z),I (p.getD k (0,0)).2]:=by
   rw [et,y4x,MD];congr 1;have hs:=Ig (e:=(p.getD k (0,0)).1) (a:=a) (z:=z) (by omega);show [I (aJ ((p.getD k (0,0)).1+bA a z)),I (aB ((p.getD k (0,0)).1+bA a z)),I (p.getD k (0,0)).2]=_;rw [hs.1,hs.2]
  generalize aJ (p.getD k (0,0)).1=x at*;generalize aB (p.getD k (0,0)).1=y at*;generalize (p.getD k (0,0)).2=v at*;have w1:=wQ (x+a) 1048576 (by decide) (by decide);have w2:=wQ (y+z) 1048576 (by decide) (by decide);rw [decide_eq_true (by omega),decide_eq_true (by omega),Bool.and_self] at w1 w2;clear h1 h2
  repeat' (first|omega|(try apply ah);simp only [go_sem,sevalprocAttr,bk,hc,g0,g1,g2,hl]|(refine ⟨aL.fn (r:=?_) rfl ?_ ?_⟩;rotate_left;assumption)|(refine ⟨bS.fn (r:=?_) rfl ?_ ?_⟩;rotate_left;assumption)|apply ag<;>(intro h_;(try simp only [h_]);revert h_)|apply zzL|with_reducible intro h_|trivial|simp only [go_sem,ai];omega)
  refine ⟨_,_,_,?_,Wk.sub ?_ ?_,k+1,by omega,rfl,rfl,rfl⟩
  ·omega
  ·simp only [go_sem,sevalprocAttr,eG]
  ·simp only [go_sem,sevalprocAttr,es,St,eG,List.all_append]
 ·obtain rfl:k=p.length:=by omega
  have bk:decide ((p.length:Int)<p.length)=false:=by simp
  rw [List.take_length] at hl⊢;have cP:=TN (bA a z) p;clear h1 h2
  repeat' (first|omega|(try apply ah);simp only [go_sem,sevalprocAttr,bk,hl]|apply ag<;>(intro h_;(try simp only [h_]);revert h_)|apply zzL|with_reducible intro h_|trivial|simp only [go_sem,ai];omega)
  all_goals first
   |exact Kb _ _ ‹_›
   |exact bE.of (by rw [TM,zzR (by omega),<-cP])
end Go.Proofs.YtjpbeacamoijhaaGreatDoor
