/- Layer 1: contracts of the program's functions on diagrams. -/
import Derived.Test.YtphjphpmfflfpaaGreatDoorTy
import Derived.Test.YtphjphpmfflfpaaGreatDoorPl
import Derived.Test.YtphjphpmfflfpaaGreatDoorRows
import Derived.ProofKit
import Derived.LaidMore
import Derived.OpenShut
import Derived.Stop.Joined
import Derived.ReadAgain
import Derived.Lib.SmallJoins
import Derived.ChangeSlices
import Derived.Test.YtphjphpmfflfpaaGreatDoorTie
import Derived.Test.YtphjphpmfflfpaaGreatDoorCards
import Derived.SevenTiedAt
set_option linter.unusedSimpArgs false
set_option linter.unusedVariables false
namespace Go.Proofs.YtphjphpmfflfpaaGreatDoor
open Go Go.RowKit
set_option maxRecDepth 100000
abbrev roI (l:List Int):AV:= .ro 1 l.length (.ints l)
abbrev roB (l:List Bool):AV:= .ro 1 l.length (.bools l)
abbrev dgA (s m:List Int) (L:Int):AV:= .agg [roI s,roI m,I L]
attribute [go_sem] roI roB dgA
def qA (l:List Int):AV:= .ro 1 l.length (.ints l)
abbrev wg (ls:List (List Int)):AV:= .ro 1 ls.length (.lst (ls.map qA))
theorem y4k (H:Hp) (l:List Int):s3 H (qA l)=true:=rfl
theorem yga (H:Hp) (ls:List (List Int)):ls.all (s3 H∘qA)=true:=by simp [y4k]
theorem yac7 (n:Nat):cutV n∘qA=qA:=by funext l;rfl
theorem y87 (H:Hp) (n:Nat):snap H (n+1)∘qA=qA:=by funext l;rfl
theorem Tj (H:Hp) (n:Nat) (ls:List (List Int)): ∀x∈ls.map qA,dr H (n+1) x:=fun x hx=>by
 obtain ⟨l,_,rfl⟩:=List.mem_map.1 hx;trivial
theorem Sy (ls:List (List Int)) (i:Nat) (h:i<ls.length):(ls.map qA).getD i .any=roI (ls.getD i []):=by simp [h,qA]
attribute [go_sem] y4k yga yac7 y87
theorem C7 {a b:Int} (h:0<=a):a.tmod b=a % b:=Int.tmod_eq_emod_of_nonneg h
theorem zd {a b:Int} (h:0<=a):a.tdiv b=a/b:=Int.tdiv_eq_ediv_of_nonneg h
theorem Oc (h b:Int) (h0:0<=h) (h1:h<=100000):Fn Tryz.prog 152 [I h,I b] (I (h-h % 4+(h % 4+b.tmod 4+4)% 4)):=by
 have e1:h.tmod 4=h % 4:=Int.tmod_eq_emod_of_nonneg h0;have e2: -4<b.tmod 4/\b.tmod 4<4:=⟨Int.lt_tmod_of_pos b (by decide),Int.tmod_lt_of_pos b (by decide)⟩;have e3:(h % 4+b.tmod 4+4).tmod 4=(h % 4+b.tmod 4+4)% 4:=Int.tmod_eq_emod_of_nonneg (by omega);refine Fn.intro [.tmp 4] Tryz.func152 rfl rfl (by decide) (by simp [Tryz.ntmps152]) ?_;rw [Tryz.ntmps152]
 repeat' (first|omega|(try apply ag);simp only [go_sem,sevalprocAttr]|apply ah<;>(intro h_;(try simp only [h_]);revert h_)|apply ai|apply aj|apply ae|apply And.intro|with_reducible intro h_|trivial|simp only [go_sem,ak];omega)
 all_goals try simp only [e1,e3]
 all_goals try omega
theorem HO (s m:List Int) (L h:Int) (h0:0<=h) (h1:h<4*s.length) (hs:s.length<=1000):Fn Tryz.prog 107 [dgA s m L,I h] (.bool (aw s h)):=by
 have e1:h.tmod 4=h % 4:=Int.tmod_eq_emod_of_nonneg h0;have e2:h.tdiv 4=h/4:=Int.tdiv_eq_ediv_of_nonneg h0;refine Fn.intro [.tmp 4] Tryz.func107 rfl rfl (by decide) (by simp [Tryz.ntmps107]) ?_;rw [Tryz.ntmps107]
 repeat' (first|omega|(try apply ag);simp only [go_sem,sevalprocAttr]|apply ah<;>(intro h_;(try simp only [h_]);revert h_)|apply ai|apply aj|apply ae|apply And.intro|with_reducible intro h_|trivial|simp only [go_sem,ak];omega)
 all_goals try simp only [e1,e2] at*
 all_goals try omega
 all_goals simp_all [aw]
theorem ZD (s m:List Int) (L:Int) (hs:s.length<=1000) (hm:kh m s.length):Fn Tryz.prog 160 [dgA s m L] (.tup [roI (fF m s.length).1,I (fF m s.length).2]):=by
 refine Fn.intro [.tmp 2, .tmp 3] Tryz.func160 rfl rfl (by decide) (by simp [Tryz.ntmps160]) ?_;rw [Tryz.ntmps160]
 repeat' (first|omega|(try apply ag);simp only [go_sem,sevalprocAttr]|apply ah<;>(intro h_;(try simp only [h_]);revert h_)|apply ai|apply aj|apply ae|apply And.intro|with_reducible intro h_|trivial|simp only [go_sem,ak];omega)
 refine bV.intro (fun n fr H=> ∃k:Nat,k<=s.length/\n=s.length-k/\fr=[(18,I k),(17,I s.length),(4, .sl 1 1 0 s.length),(1, .ptr 0 0)]/\H=[(1, .cells 3 (.ints (List.replicate k (-1)++List.replicate (s.length-k) 0))),(0, .cells 24 (.lst [roI s,roI m,I L]))]) ?_ ?_
 ·refine ⟨_,_,_,?_,0,by omega,rfl,rfl,rfl⟩;refine Wk.sub ?_ ?_<;>simp only [go_sem,sevalprocAttr];simp
 rintro n fr H ⟨k,hk,rfl,rfl,rfl⟩
 repeat' (first|omega|(try apply ag);simp only [go_sem,sevalprocAttr]|apply ah<;>(intro h_;(try simp only [h_]);revert h_)|apply ai|apply aj|apply ae|apply And.intro|with_reducible intro h_|trivial|simp only [go_sem,ak];omega)
 ·refine ⟨_,_,_,?_,?_,⟨k+1,by omega,rfl,rfl,rfl⟩⟩
  ·omega
  ·refine Wk.sub ?_ ?_<;>simp only [go_sem,sevalprocAttr];exact ZG _ _ _ _ (by omega)
 obtain rfl:k=s.length:=by omega
 refine bV.intro (fun n fr H=> ∃k:Nat,k<=s.length/\n=s.length-k/\fr=[(27,I k),(26,I s.length),(6,I (cj m s.length k).2),(4, .sl 1 1 0 s.length),(1, .ptr 0 0)]/\H=[(1, .cells 3 (.ints (cj m s.length k).1)),(0, .cells 24 (.lst [roI s,roI m,I L]))]) ?_ ?_
 ·refine ⟨_,_,_,?_,0,by omega,rfl,rfl,rfl⟩;refine Wk.sub ?_ ?_<;>simp only [go_sem,sevalprocAttr]
  ·simp [cj]
  ·simp [cj]
 rintro n fr H ⟨k,hk,rfl,rfl,rfl⟩;obtain ⟨aC,aJ,hp3⟩:=CS hm k hk;have lI:=aC.1
 repeat' (first|omega|(try apply ag);simp only [go_sem,sevalprocAttr]|apply ah<;>(intro h_;(try simp only [h_]);revert h_)|apply ai|apply aj|apply ae|apply And.intro|with_reducible intro h_|trivial|simp only [go_sem,ak];omega)
 ·refine ⟨_,_,_,?_,?_,⟨k+1,by omega,rfl,rfl,rfl⟩⟩
  ·omega
  ·have e:cj m s.length (k+1)=cj m s.length k:=by simp only [cj,Cf];rw [if_pos (by assumption)]
   refine Wk.sub ?_ ?_<;>(simp only [go_sem,sevalprocAttr];rw [e])
 ·have pY:(cj m s.length k).1.getD k 0<0:=by assumption
  have wJ:k<s.length:=by omega
  have eN:cj m s.length (k+1)=(bfs m (cj m s.length k).2 (2*s.length+1) ((cj m s.length k).1.set k (cj m s.length k).2) [(k:Int)],(cj m s.length k).2+1):=by simp only [cj,Cf];rw [if_neg (by omega)]
  have jM:=Lc (i:=k) (by omega) pY aJ;have jF:=Rk (cj m s.length k).1;have lf:sF s.length (cj m s.length k).2 ((cj m s.length k).1.set k (cj m s.length k).2):=⟨by simp [lI],fun i hi=>by
   by_cases e:k=i
   ·subst e;rw [nL (by omega)];omega
   ·rw [ma e];exact aC.2 i hi⟩
  generalize (cj m s.length k).1.set k (cj m s.length k).2=xT at*
  refine bV.intro (fun f fr H=> ∃(part q cq:List Int) (off:Nat),2*lD part+q.length<=f/\f<=2*s.length+1/\sF s.length (cj m s.length k).2 part/\xS s.length q/\off+q.length=cq.length/\cq.drop off=q/\bfs m (cj m s.length k).2 f part q=bfs m (cj m s.length k).2 (2*s.length+1) xT [(k:Int)]/\
   fr=[(8, .sl 1 2 off q.length),(27,I k),(26,I s.length),(6,I (cj m s.length k).2),(4, .sl 1 1 0 s.length),(1, .ptr 0 0)]/\H=[(2, .cells 3 (.ints cq)),(1, .cells 3 (.ints part)),(0, .cells 24 (.lst [roI s,roI m,I L]))]) ?_ ?_
  ·refine ⟨_,_,_,?_,xT,[(k:Int)],[(k:Int)],0,?_,Nat.le_refl _,lf,fun x hx=>by simp at hx;omega,rfl,rfl,rfl,rfl,rfl⟩
   ·refine Wk.sub ?_ ?_<;>simp only [go_sem,sevalprocAttr]
   ·simp only [List.length_singleton];omega
  rintro f fr H ⟨part,q,cq,off,hf,XA,wF,Xh,hoc,XD,Au,rfl,rfl⟩;have hppl:=wF.1
  repeat' (first|omega|(try apply ag);simp only [go_sem,sevalprocAttr]|apply ah<;>(intro h_;(try simp only [h_]);revert h_)|apply ai|apply aj|apply ae|apply And.intro|with_reducible intro h_|trivial|simp only [go_sem,ak];omega)
  ·--the four neighbours
   have qM:0<q.length:=by omega
   obtain ⟨c,q',rfl⟩: ∃c q',q=c::q':=by
    cases q with
    |nil=>simp at qM
    |cons c q'=>exact ⟨c,q',rfl⟩
   have IG:cq.getD off 0=c:=by
    have:=congrArg (fun l=>l.getD 0 0) XD
    simpa using this
   have Qb:cq.drop (off+1)=q':=by
    have:=congrArg List.tail XD
    simpa using this
   have vB:=Xh c (by simp);have Pz:xS s.length q':=fun x hx=>Xh x (by simp [hx]);simp only [List.length_cons] at hf hoc;rw [IG]
   refine bV.intro (fun j fr H=> ∃(i:Nat) (cq oj:_),j=4-i/\i<=4/\oj+(lb4 m c (cj m s.length k).2 (part,q') i).2.length=(cq:List Int).length/\cq.drop oj=(lb4 m c (cj m s.length k).2 (part,q') i).2/\
    fr=[(49,I i),(8, .sl 1 2 oj (lb4 m c (cj m s.length k).2 (part,q') i).2.length),(9,I c),(27,I k),(26,I s.length),(6,I (cj m s.length k).2),(4, .sl 1 1 0 s.length),(1, .ptr 0 0)]/\H=[(2, .cells 3 (.ints cq)),(1, .cells 3 (.ints (lb4 m c (cj m s.length k).2 (part,q') i).1)),(0, .cells 24 (.lst [roI s,roI m,I L]))]) ?_ ?_
   ·refine ⟨_,_,_,?_,0,cq,off+1,rfl,by omega,by simp only [lb4];omega,by simp only [lb4];exact Qb,rfl,rfl⟩;refine Wk.sub ?_ ?_<;>simp only [go_sem,sevalprocAttr]
    ·simp [lb4]
    ·simp [lb4]
   rintro j fr H ⟨i,cq,oj,rfl,hi,dd,vq,rfl,rfl⟩;obtain ⟨g1,g2,g3,g5⟩:=Gp hm vB aJ (st:=(part,q')) wF Pz i hi;have g1l:=g1.1;simp only at g3 g5;by_cases hi4:i<4
   ·have oK:=hm.2 (4*c+i).toNat (by omega);have iw:=hm.1;have e2:(m.getD (4*c+i).toNat 0).tdiv 4=m.getD (4*c+i).toNat 0/4:=zd oK.1;have zN:0<=m.getD (4*c+i).toNat 0/4/\m.getD (4*c+i).toNat 0/4<s.length:=by omega
    have eL:lb4 m c (cj m s.length k).2 (part,q') (i+1)=lE m c (cj m s.length k).2 i (lb4 m c (cj m s.length k).2 (part,q') i):=rfl
    repeat' (first|omega|(try apply ag);simp only [go_sem,sevalprocAttr,e2]|apply ah<;>(intro h_;(try simp only [h_]);revert h_)|apply ai|apply aj|apply ae|apply And.intro|with_reducible intro h_|trivial|simp only [go_sem,ak];omega)
    ·have Xj:(lb4 m c (cj m s.length k).2 (part,q') i).1.getD (m.getD (4*c+i).toNat 0/4).toNat 0<0:=by assumption
     have eB:lb4 m c (cj m s.length k).2 (part,q') (i+1)=((lb4 m c (cj m s.length k).2 (part,q') i).1.set (m.getD (4*c+i).toNat 0/4).toNat (cj m s.length k).2,(lb4 m c (cj m s.length k).2 (part,q') i).2++[m.getD (4*c+i).toNat 0/4]):=by
      rw [eL];unfold lE;simp only;rw [if_pos Xj]
     refine ⟨_,_,_,?_,?_,⟨i+1,cq.drop oj++[m.getD (4*c+i).toNat 0/4],0,rfl,by omega,?_,?_,rfl,rfl⟩⟩
     ·omega
     ·refine Wk.sub ?_ ?_<;>(rw [eB];simp only [go_sem,sevalprocAttr])
     ·rw [eB,vq];simp
     ·rw [eB,vq];simp
    ·have Xj:0<=(lb4 m c (cj m s.length k).2 (part,q') i).1.getD (m.getD (4*c+i).toNat 0/4).toNat 0:=by assumption
     have eB:lb4 m c (cj m s.length k).2 (part,q') (i+1)=lb4 m c (cj m s.length k).2 (part,q') i:=by
      rw [eL];unfold lE;simp only;rw [if_neg (by omega)]
     refine ⟨_,_,_,?_,?_,⟨i+1,cq,oj,rfl,by omega,?_,?_,rfl,rfl⟩⟩
     ·omega
     ·refine Wk.sub ?_ ?_<;>(rw [eB];simp only [go_sem,sevalprocAttr])
     ·rw [eB];exact dd
     ·rw [eB];exact vq
   ·obtain rfl:i=4:=by omega
    repeat' (first|omega|(try apply ag);simp only [go_sem,sevalprocAttr]|apply ah<;>(intro h_;(try simp only [h_]);revert h_)|apply ai|apply aj|apply ae|apply And.intro|with_reducible intro h_|trivial|simp only [go_sem,ak];omega)
    obtain ⟨f',rfl⟩: ∃f',f=f'+1:=⟨f-1,by omega⟩;refine ⟨f',_,_,?_,?_,⟨(lb4 m c (cj m s.length k).2 (part,q') 4).1,(lb4 m c (cj m s.length k).2 (part,q') 4).2,cq,oj,?_,?_,g1,g2,dd,vq,?_,rfl,rfl⟩⟩
    ·omega
    ·refine Wk.sub ?_ ?_<;>simp only [go_sem,sevalprocAttr]
    ·omega
    ·omega
    ·rw [←Au];rfl
  ·obtain rfl:q=[]:=List.eq_nil_of_length_eq_zero (by omega);have eP:bfs m (cj m s.length k).2 f part []=part:=by unfold bfs;rfl
   rw [eP] at Au;refine ⟨_,_,_,?_,?_,⟨k+1,by omega,rfl,rfl,rfl⟩⟩
   ·omega
   ·refine Wk.sub ?_ ?_<;>(rw [eN];simp only [go_sem,sevalprocAttr]);exact Au
 ·obtain rfl:k=s.length:=by omega
  exact lI.symm
 ·obtain rfl:k=s.length:=by omega
  exact List.take_of_length_le (by omega)
 ·obtain rfl:k=s.length:=by omega
  rfl
end Go.Proofs.YtphjphpmfflfpaaGreatDoor
namespace Go.Proofs.YtphjphpmfflfpaaGreatDoor
set_option maxRecDepth 100000
open Go Go.Joins Go.ChangeShapes Go.WideShapes Go.ChangeAt Go.WideMaps Go.WideElems Go.RowKit
theorem kids:Kids Tryz.prog (· <Tryz.prog.types.size):=kids_rows (by kernel_rfl) (by kernel_rfl)
theorem full: ∀t e,t<Tryz.prog.types.size->Tryz.prog.underlying t=some (.slice e)->0<Tryz.prog.cellsOf e:=slices_full_of Tryz.prog (by kernel_rfl)
section
variable {H:Type} {enc:TypeId×Value->H}
theorem Un {P:Program} {W W':World} {base:Nat} {sp:Nat->Bool} {held:Bool}: ∀{ts:List TypeId} {vs:List Value} {ds:List (DataW H)} {ps:List MemPlace},DataW.TrodAll enc P W base sp held ts vs ds ps->(∀p∈ps,W.sameAt W' p)->DataW.TrodAll enc P W' base sp held ts vs ds ps
 |[],[],[],_,h,_=>h
 |_::_,_::_,_::_,_,⟨p,q,⟨n,h1⟩,h2,e⟩,hs=>⟨p,q,⟨n,DataW.trod_carry n _ _ _ h1 (fun x hx=>hs x (by rw [e];exact List.mem_append_left _ hx))⟩,Un h2 (fun x hx=>hs x (by rw [e];exact List.mem_append_right _ hx)),e⟩
theorem yil {f:Func} {s:ChangeSpec} {apart fresh handsOn again:Bool} {W W':World} {args:Array Value} {ds gs:List (DataW H)} {before:List MemPlace}
  (hW:DataW.Whole enc Tryz.prog f.params.toList s.vars apart W args.toList ds gs before) (hv:s.vars=[]) (hT: ∀t∈f.params.toList,t<Tryz.prog.types.size)
  (hr:f.resultTypes= #[4]) (hs:s.fn H (ds++gs)={results:=[.lit (.bool true)],args:=ds}) (hb:Below W.heap.size W W'):
  s.post enc Tryz.prog f apart fresh handsOn again W args (.bool true) W':=by
 have hold: ∀p∈before,(fun b=>decide (b<W.heap.size)) p.block=true:=fun p hp=>by simpa using hW.lt p hp
 have aG: ∀p∈before,p.block<W.heap.size:=fun p hp=>hW.lt p hp;obtain ⟨p,q,hA,hV,mn,hz,hn⟩:=hW;have hWw:DataW.Whole enc Tryz.prog f.params.toList s.vars apart W args.toList ds gs before:=⟨p,q,hA,hV,mn,hz,hn⟩;rw [hv] at hV;obtain ⟨rfl,rfl⟩:=trodVars_none hV;rw [List.append_nil] at mn;subst mn
 have qR: ∀sp:Nat->Bool,(∀x∈before,sp x.block=true)->DataW.TrodAll enc Tryz.prog W' 0 sp true f.params.toList args.toList ds before:=fun sp eZ=>
  Un (DataW.TrodAll.respare kids full hT hA eZ) fun x hx=>hb.same (aG x hx)
 have oE: ∀(b:Nat) (sp:Nat->Bool) (hd:Bool),DataW.TrodAll enc Tryz.prog W' b sp hd f.resultTypes.toList ((Value.bool true).resultList f.resultTypes.size) [.lit (.bool true)] []:=fun b sp hd=>by
  rw [hr];exact trodAll_mk1 (shut_bool Tryz.underlying4 _)
 refine ⟨ds,[],before,[],before,[],hWw,?_,?_,?_,hb.frame _,fun _=>?_⟩
 ·rw [hs];exact oE _ _ _
 ·rw [hs];exact qR _ hold
 ·rw [hv,hs];rfl
 ·refine ⟨?_,[.lit (.bool true)]++ds,[],[]++before,⟨[]++before,[],trodAll_append (qR _ (fun _ _=>rfl)) (oE _ _ _),?_,by simp,?_,?_⟩,?_⟩
  ·exact ok_one hr (by rfl) (okWide_bool_mk Tryz.underlying4 _)
  ·rw [hv];rfl
  ·intro b off hp;have cQ:MemPlace.cell b off∈before:=by simpa using hp
   rw [hb.frozen (aG _ cQ)];exact hz b off cQ
  ·intro ha
   have:=hn ha
   simpa using this
  ·intro p hp _;simpa using hp
theorem Ki {w:World} {fuel:Nat} {v:Value} {x:DataW H×List MemPlace} (h:DataW.trod enc Tryz.prog w 0 (fun _=>true) true fuel 22 [v]=some x): ∃s:List Int,VR w (fun _=>False) ρ0 (fun _=>False) v (roI s):=by
 rcases open_ints Tryz.underlying22 Tryz.underlying3 (by kernel_rfl) h with ⟨hc,_⟩|⟨a,len,cap,zs,hc,_,hl,_,hz,_,fB,_⟩
 ·simp only [List.cons.injEq,and_true] at hc;subst hc;exact ⟨[], .ro 1 0 (.ints []) none 0 (fun _=>undef) rfl (Nat.le_refl _) (by decide) (fun h=>absurd h (by decide)) (fun j hj=>by simp [Cs.len] at hj)⟩
 ·simp only [List.cons.injEq,and_true] at hc;subst hc;simp only [if_true] at hz;refine ⟨zs.take len,?_⟩;have e:(zs.take len).length=len:=by rw [List.length_take];omega
  unfold roI;rw [e];refine .ro 1 len (.ints (zs.take len)) (some a) cap (fun j=> .int .i64 (zs.getD j 0)) (by simp [Cs.len];omega) hl (by decide) (fun h0=>⟨a,rfl,?_,fun h=>h,fun j hj=>?_⟩) fun j hj=>?_
  ·have h1:=fB 0 (by omega);unfold World.cell? at h1;rw [show (a.add 0)=a from rfl] at h1
   split at h1
   ·rename_i hb;exact (Array.getElem?_eq_some_iff.1 hb).1
   ·cases h1
  ·exact fB j (by simp [Cs.len] at hj;omega)
  ·have fx:j<len:=by simp [Cs.len] at hj;omega
   simp only [Cs.get];rw [show (zs.take len).getD j 0=zs.getD j 0 by simp [List.getD_eq_getElem?_getD,List.getElem?_take,fx]];exact .int _ _
theorem yne {w:World} {r:Reach} {b0:Nat} {v:Value} {d:DataW H} {p:List MemPlace} (hv:Value.okWide Tryz.prog w r b0 24 v) (h:DataW.Trod enc Tryz.prog w 0 (fun _=>true) true 24 v d p):
  ∃(s m:List Int) (L:Int),VR w (fun _=>False) ρ0 (fun _=>False) v (dgA s m L):=by
 obtain ⟨v0,v1,v2,y0,y1,y2,n,rfl,_,_,h0,h1,h2⟩:=open_agg3 Tryz.underlying24 (by kernel_rfl) (by kernel_rfl) hv h;obtain ⟨s,hs⟩:=Ki h0;obtain ⟨m,hm⟩:=Ki h1;obtain ⟨L,e,_⟩:=DataW.trod_int Tryz.underlying3 h2;simp only [List.cons.injEq,and_true] at e;subst e;refine ⟨s,m,L, .agg [v0,v1, .int .i64 L] [roI s,roI m,I L] rfl fun i u x hu hx=>?_⟩
 match i,hu,hx with
 |0,hu,hx=>simp at hu hx;subst hu hx;exact hs
 |1,hu,hx=>simp at hu hx;subst hu hx;exact hm
 |2,hu,hx=>simp at hu hx;subst hu hx;exact .int _ _
end
theorem own:ownKnob Tryz.prog.godebug=none:=by kernel_rfl
def ydj:List (String×DataW Unit):=[("math/bits.deBruijn32tab",Rows.laid_math_bits_deBruijn32tab),("math/bits.deBruijn64tab",Rows.laid_math_bits_deBruijn64tab),("internal/strconv.uint64pow10",Rows.laid_internal_strconv_uint64pow10)]
theorem QJ:Tryz.prog.globalNamed "internal/strconv.uint64pow10" =some 0:=by kernel_rfl
theorem OU:(Tryz.prog.globals[0]?).map (·.type)=some 210:=by kernel_rfl
theorem yev {W:World} (h:laidMetH Tryz.prog ydj W):Good W:=by
 rw [MakeChecks.laidMetH_plain _ _ _ (by kernel_rfl)] at h;obtain ⟨ps,⟨g0,t0,cs0,f0,p0,q0,wQ,vm,hv0,IF,⟨g1,t1,cs1,f1,p1,q1,vv,Xc,hv1,CA,⟨g2,t2,cs2,f2,p2,q2,po,Pn,hv2,Ap,_,_⟩,_⟩,_⟩,_,_⟩:=h;obtain rfl:=Option.some.inj (QJ.symm.trans po);obtain rfl:=Option.some.inj (OU.symm.trans Pn);have e:(Rows.laid_internal_strconv_uint64pow10:DataW Unit)=Lib.tabData .u64 Lib.pow10Tab:=by rfl
 rw [e] at Ap;unfold Good Lib.TabIs;rw [hv2,←Lib.cells_of_tab Tryz.underlying210 Tryz.underlying79 (by kernel_rfl) (by kernel_rfl) Ap]
theorem yim (os:Os) (args:Array Value):laidMetH Tryz.prog ydj ((World.doorLaid Tryz.prog 400 os).forCall (fun _ _=>0) ⟨#[],args,[]⟩).memory:=
 laidMetH_of_parts3 (fuel:=8) (laidMet_of_run' 8 (by kernel_rfl) (by kernel_rfl)) (by kernel_rfl) (by kernel_rfl)
end Go.Proofs.YtphjphpmfflfpaaGreatDoor
namespace Go.Proofs.YtphjphpmfflfpaaGreatDoor
open Go Go.RowKit
set_option maxRecDepth 100000
theorem Kh (h b:Int) (h0:0<=h) (h1:h<=100000):Fn Tryz.prog 152 [I h,I b] (I (dB h b)):=Oc h b h0 h1
theorem YH (s m:List Int) (L:Int) (hs:s.length<=1000) (hm:kh m s.length):Fn Tryz.prog 118 [dgA s m L] (.bool (mQ m s.length)):=by
 obtain ⟨p1,p2,p3,p4⟩:=Lp hm;have iw:=hm.1;refine Fn.intro [.tmp 2] Tryz.func118 rfl rfl (by decide) (by simp [Tryz.ntmps118]) ?_;rw [Tryz.ntmps118]
 repeat' (first|omega|(try apply ag);simp only [go_sem,sevalprocAttr]|apply ah<;>(intro h_;(try simp only [h_]);revert h_)|apply ai|apply aj|apply ae|apply And.intro|with_reducible intro h_|trivial|simp only [go_sem,ak];omega)
 refine ⟨aA.fn rfl (ZD s m L hs hm) ?_⟩
 repeat' (first|omega|(try apply ag);simp only [go_sem,sevalprocAttr]|apply ah<;>(intro h_;(try simp only [h_]);revert h_)|apply ai|apply aj|apply ae|apply And.intro|with_reducible intro h_|trivial|simp only [go_sem,ak];omega)
 generalize wE:(fF m s.length).1=part at*;generalize Cp:(fF m s.length).2=np at*;refine bV.intro (fun n fr H=> ∃k:Nat,k<=part.length/\n=part.length-k/\fr=[(22,I k),(21,I part.length),(20,roI part),(5, .sl 1 1 0 np.toNat),(3,roI part),(1, .ptr 0 0)]/\H=[(1, .cells 3 (.ints (gD part np.toNat k))),(0, .cells 24 (.lst [roI s,roI m,I L]))]) ?_ ?_
 ·refine ⟨_,_,_,?_,0,by omega,rfl,rfl,rfl⟩;refine Wk.sub ?_ ?_<;>simp only [go_sem,sevalprocAttr];simp [gD]
 rintro n fr H ⟨k,hk,rfl,rfl,rfl⟩;obtain ⟨d1,d2⟩:=GW part np.toNat k;by_cases bN:k<part.length
 ·have q4:=p4 k (by omega);have d3:=d2 (part.getD k 0).toNat
  repeat' (first|omega|(try apply ag);simp only [go_sem,sevalprocAttr]|apply ah<;>(intro h_;(try simp only [h_]);revert h_)|apply ai|apply aj|apply ae|apply And.intro|with_reducible intro h_|trivial|simp only [go_sem,ak];omega)
  refine ⟨_,_,_,?_,?_,⟨k+1,by omega,rfl,rfl,rfl⟩⟩
  ·omega
  ·refine Wk.sub ?_ ?_<;>simp only [go_sem,sevalprocAttr];rfl
 obtain rfl:k=part.length:=by omega
 repeat' (first|omega|(try apply ag);simp only [go_sem,sevalprocAttr]|apply ah<;>(intro h_;(try simp only [h_]);revert h_)|apply ai|apply aj|apply ae|apply And.intro|with_reducible intro h_|trivial|simp only [go_sem,ak];omega)
 refine bV.intro (fun n fr H=> ∃h:Nat,h<=m.length/\n=m.length-h/\fr=[(40,I h),(39,I m.length),(8, .sl 1 2 0 m.length),(5, .sl 1 1 0 np.toNat),(3,roI part),(1, .ptr 0 0)]/\H=[(2, .cells 4 (.bools (b6 m part np.toNat h).2)),(1, .cells 3 (.ints (b6 m part np.toNat h).1)),(0, .cells 24 (.lst [roI s,roI m,I L]))]) ?_ ?_
 ·refine ⟨_,_,_,?_,0,by omega,rfl,rfl,rfl⟩;refine Wk.sub ?_ ?_<;>simp only [go_sem,sevalprocAttr]
  all_goals simp [b6]
 rintro n fr H ⟨h,hh,rfl,rfl,rfl⟩;obtain ⟨e1,e2,e3⟩:=BF m part np.toNat h;by_cases IA:h<m.length
 ·have q4:=p4 (h/4) (by omega);have e4:=e3 (part.getD (h/4) 0).toNat;have e5:(h:Int).tdiv 4=(h/4:Nat):=by rw [zd (by omega)];omega
  have e6:((h:Int).toNat)=h:=by omega
  repeat' (first|omega|(try apply ag);simp only [go_sem,sevalprocAttr,e5]|apply ah<;>(intro h_;(try simp only [h_]);revert h_)|apply ai|apply aj|apply ae|apply And.intro|with_reducible intro h_|trivial|simp only [go_sem,ak];omega)
  ·have eS:b6 m part np.toNat (h+1)=b6 m part np.toNat h:=by
    simp only [b6,tj];rw [if_pos (by assumption)]
   refine ⟨_,_,_,?_,?_,⟨h+1,by omega,rfl,rfl,rfl⟩⟩
   ·omega
   ·refine Wk.sub ?_ ?_<;>(rw [eS];simp only [go_sem,sevalprocAttr])
  ·have hf:(b6 m part np.toNat h).2.getD h false=false:=by assumption
   have eS:b6 m part np.toNat (h+1)=((b6 m part np.toNat h).1.set (part.getD (h/4) 0).toNat ((b6 m part np.toNat h).1.getD (part.getD (h/4) 0).toNat 0+1),mark m (m.length+1) (b6 m part np.toNat h).2 h):=by
    simp only [b6,tj];rw [if_neg (mV hf)]
   have hu:=MK (b6 m part np.toNat h).2;generalize (b6 m part np.toNat h).2=iG at*;generalize (b6 m part np.toNat h).1.set (part.getD (h/4) 0).toNat ((b6 m part np.toNat h).1.getD (part.getD (h/4) 0).toNat 0+1)=exc at*
   refine bV.intro (fun f fr H=> ∃(seen:List Bool) (g:Int),DH seen<f/\seen.length=m.length/\0<=g/\g<4*s.length/\mark m f seen g=mark m (m.length+1) iG h/\
    fr=[(10,I g),(40,I h),(39,I m.length),(8, .sl 1 2 0 m.length),(5, .sl 1 1 0 np.toNat),(3,roI part),(1, .ptr 0 0)]/\H=[(2, .cells 4 (.bools seen)),(1, .cells 3 (.ints exc)),(0, .cells 24 (.lst [roI s,roI m,I L]))]) ?_ ?_
   ·refine ⟨m.length+1,_,_,?_,iG,h,by omega,e2,by omega,by omega,rfl,rfl,rfl⟩;refine Wk.sub ?_ ?_<;>simp only [go_sem,sevalprocAttr]
   rintro f fr H ⟨seen,g,XB,XA,wQ,vv,Ct,rfl,rfl⟩;obtain ⟨f',rfl⟩: ∃f',f=f'+1:=⟨f-1,by omega⟩;have oK:=hm.2 g.toNat (by omega)
   repeat' (first|omega|(try apply ag);simp only [go_sem,sevalprocAttr]|apply ah<;>(intro h_;(try simp only [h_]);revert h_)|apply ai|apply aj|apply ae|apply And.intro|with_reducible intro h_|trivial|simp only [go_sem,ak];omega)
   ·refine ⟨aA.fn rfl (Kh _ _ oK.1 (by omega)) ?_⟩
    repeat' (first|omega|(try apply ag);simp only [go_sem,sevalprocAttr]|apply ah<;>(intro h_;(try simp only [h_]);revert h_)|apply ai|apply aj|apply ae|apply And.intro|with_reducible intro h_|trivial|simp only [go_sem,ak];omega)
    have rJ:seen.getD g.toNat false=false:=by assumption
    have hus:=Og (l:=seen) (i:=g.toNat) (by omega) rJ;have zM:=LH (b:= -1) oK.1 oK.2;refine ⟨f',_,_,?_,?_,⟨seen.set g.toNat true,dB (m.getD g.toNat 0) (-1),by omega,by simp [XA],zM.1,zM.2,?_,rfl,rfl⟩⟩
    ·omega
    ·refine Wk.sub ?_ ?_<;>simp only [go_sem,sevalprocAttr]
    ·rw [←Ct];simp only [mark];rw [if_neg (mV rJ)]
   ·have rJ:seen.getD g.toNat false=true:=by assumption
    have PL:seen=mark m (m.length+1) iG h:=by rw [←Ct];simp only [mark];rw [if_pos rJ]
    refine ⟨_,_,_,?_,?_,⟨h+1,by omega,rfl,rfl,rfl⟩⟩
    ·omega
    ·refine Wk.sub ?_ ?_<;>(rw [eS];simp only [go_sem,sevalprocAttr]);exact PL
 obtain rfl:h=m.length:=by omega
 repeat' (first|omega|(try apply ag);simp only [go_sem,sevalprocAttr]|apply ah<;>(intro h_;(try simp only [h_]);revert h_)|apply ai|apply aj|apply ae|apply And.intro|with_reducible intro h_|trivial|simp only [go_sem,ak];omega)
 refine bV.intro (fun n fr H=> ∃k:Nat,k<=np.toNat/\n=np.toNat-k/\(∀i,i<k->(b6 m part np.toNat m.length).1.getD i 0=2)/\fr=[(75,I k),(74,I np.toNat),(73, .sl 1 1 0 np.toNat)]/\H=[(1, .cells 3 (.ints (b6 m part np.toNat m.length).1))]) ?_ ?_
 ·refine ⟨_,_,_,?_,0,by omega,rfl,by omega,rfl,rfl⟩;refine Wk.sub ?_ ?_<;>simp only [go_sem,sevalprocAttr]
 rintro n fr H ⟨k,hk,rfl,cE,rfl,rfl⟩
 repeat' (first|omega|(try apply ag);simp only [go_sem,sevalprocAttr]|apply ah<;>(intro h_;(try simp only [h_]);revert h_)|apply ai|apply aj|apply ae|apply And.intro|with_reducible intro h_|trivial|simp only [go_sem,ak];omega)
 ·unfold mQ;rw [wE,Cp];exact (y13 (k:=k) (by rw [(BF m part np.toNat m.length).1];omega) (by assumption)).symm
 ·refine ⟨_,_,_,?_,?_,⟨k+1,by omega,rfl,fun i hi=>?_,rfl,rfl⟩⟩
  ·omega
  ·refine Wk.sub ?_ ?_<;>simp only [go_sem,sevalprocAttr]
  ·rcases Nat.lt_or_ge i k with g|g
   ·exact cE i g
   ·rw [show i=k by omega];assumption
 ·unfold mQ;rw [wE,Cp];exact (y37 (fun i hi=>cE i (by rw [(BF m part np.toNat m.length).1] at hi;omega))).symm
set_option maxHeartbeats 4000000
def Vz:Tr:= .node [(0, .node [(1, .node [(2, .node [(3, .node [(4, .node [(5, .node [(6, .done)])])]),(4, .node [(3, .node [(5, .node [(6, .done)])])])]),(3, .node [(2, .node [(4, .node [(5, .node [(6, .done)])])]),(4, .node [(2, .node [(5, .node [(6, .done)])])])]),(4, .node [(2, .node [(3, .node [(5, .node [(6, .done)])])]),(3, .node [(2, .node [(5, .node [(6, .done)])])])])]),(3, .node [(1, .node [(2, .node [(4, .node [(5, .node [(6, .done)])])]),(4, .node [(2, .node [(5, .node [(6, .done)])])])]),(4, .node [(1, .node [(2, .node [(5, .node [(6, .done)])])])])]),(4, .node [(1, .node [(2, .node [(3, .node [(5, .node [(6, .done)])])]),(3, .node [(2, .node [(5, .node [(6, .done)])])])]),(3, .node [(1, .node [(2, .node [(5, .node [(6, .done)])])])])])]),(1, .node [(0, .node [(2, .node [(3, .node [(4, .node [(5, .node [(6, .done)])])]),(4, .node [(3, .node [(5, .node [(6, .done)])])])]),(3, .node [(2, .node [(4, .node [(5, .node [(6, .done)])])]),(4, .node [(2, .node [(5, .node [(6, .done)])])])]),(4, .node [(2, .node [(3, .node [(5, .node [(6, .done)])])]),(3, .node [(2, .node [(5, .node [(6, .done)])])])])]),(3, .node [(0, .node [(2, .node [(4, .node [(5, .node [(6, .done)])])]),(4, .node [(2, .node [(5, .node [(6, .done)])])])]),(4, .node [(0, .node [(2, .node [(5, .node [(6, .done)])])])])]),(4, .node [(0, .node [(2, .node [(3, .node [(5, .node [(6, .done)])])]),(3, .node [(2, .node [(5, .node [(6, .done)])])])]),(3, .node [(0, .node [(2, .node [(5, .node [(6, .done)])])])])])]),(3, .node [(0, .node [(1, .node [(2, .node [(4, .node [(5, .node [(6, .done)])])]),(4, .node [(2, .node [(5, .node [(6, .done)])])])]),(4, .node [(1, .node [(2, .node [(5, .node [(6, .done)])])])])]),(1, .node [(0, .node [(2, .node [(4, .node [(5, .node [(6, .done)])])]),(4, .node [(2, .node [(5, .node [(6, .done)])])])]),(4, .node [(0, .node [(2, .node [(5, .node [(6, .done)])])])])]),(4, .node [(0, .node [(1, .node [(2, .node [(5, .node [(6, .done)])])])]),(1, .node [(0, .node [(2, .node [(5, .node [(6, .done)])])])])])]),(4, .node [(0, .node [(1, .node [(2, .node [(3, .node [(5, .node [(6, .done)])])]),(3, .node [(2, .node [(5, .node [(6, .done)])])])]),(3, .node [(1, .node [(2, .node [(5, .node [(6, .done)])])])])]),(1, .node [(0, .node [(2, .node [(3, .node [(5, .node [(6, .done)])])]),(3, .node [(2, .node [(5, .node [(6, .done)])])])]),(3, .node [(0, .node [(2, .node [(5, .node [(6, .done)])])])])]),(3, .node [(0, .node [(1, .node [(2, .node [(5, .node [(6, .done)])])])]),(1, .node [(0, .node [(2, .node [(5, .node [(6, .done)])])])])])])]
theorem l8 (s m:List Int) (L:Int):Fn Tryz.prog 58 [dgA s m L] (.bool (bF s m L)):=by
 refine Fn.intro [.tmp 2] Tryz.func58 rfl rfl (by decide) (by simp [Tryz.ntmps58]) ?_;rw [Tryz.ntmps58]
 repeat' (first|omega|(try apply ag);simp only [go_sem,sevalprocAttr]|apply ah<;>(intro h_;(try simp only [h_]);revert h_)|apply ai|apply aj|apply ae|apply And.intro|with_reducible intro h_|trivial|simp only [go_sem,ak];omega)
 ·exact vd (by omega)
 rotate_left
 ·exact vd (by omega)
 ·exact vd (by omega)
 ·exact vd (by omega)
 refine bV.intro (fun n fr H=> ∃k:Nat,k<=s.length/\n=s.length-k/\ru s k/\fr=[(34,I k),(33,I s.length),(32,roI s),(3,I s.length),(1, .ptr 0 0)]/\H=[(0, .cells 24 (.lst [roI s,roI m,I L]))]) ?_ ?_
 ·refine ⟨_,_,_,?_,0,by omega,rfl,(fun i hi=>by omega),rfl,rfl⟩;refine Wk.sub ?_ ?_<;>simp only [go_sem,sevalprocAttr]
 rintro n fr H ⟨k,hk,rfl,jJ,rfl,rfl⟩
 repeat' (first|omega|(try apply ag);simp only [go_sem,sevalprocAttr]|apply ah<;>(intro h_;(try simp only [h_]);revert h_)|apply ai|apply aj|apply ae|apply And.intro|with_reducible intro h_|trivial|simp only [go_sem,ak];omega)
 ·exact vd fun hv=>by have:=hv.2.2.2.2.1 k (by omega);omega
 ·refine ⟨_,_,_,?_,?_,⟨k+1,by omega,rfl,Ug jJ (by omega),rfl,rfl⟩⟩
  ·omega
  ·refine Wk.sub ?_ ?_<;>simp only [go_sem,sevalprocAttr]
 ·refine ⟨_,_,_,?_,?_,⟨k+1,by omega,rfl,Ug jJ (by omega),rfl,rfl⟩⟩
  ·omega
  ·refine Wk.sub ?_ ?_<;>simp only [go_sem,sevalprocAttr]
 obtain rfl:k=s.length:=by omega
 refine bV.intro (fun n fr H=> ∃k:Nat,k<=m.length/\n=m.length-k/\vQ s m k/\fr=[(48,I k),(47,I m.length),(46,roI m),(3,I s.length),(1, .ptr 0 0)]/\H=[(0, .cells 24 (.lst [roI s,roI m,I L]))]) ?_ ?_
 ·refine ⟨_,_,_,?_,0,by omega,rfl,(fun i hi=>by omega),rfl,rfl⟩;refine Wk.sub ?_ ?_<;>simp only [go_sem,sevalprocAttr]
 rintro n fr H ⟨h,hh,rfl,It,rfl,rfl⟩
 repeat' (first|omega|(first|apply ag|(refine an.intro (id:=15) [[76,78,79],[75,78,79],[78,79],[75,76,77,79],[75,76,77,78],[],[]] [[],[0],[],[0,1,2],[0,1,2,3],[],[]] (by decide+kernel) mixed ?_)|(refine an.aB (id:=15) (Vz) (by decide+kernel) mixed ?_)|skip);simp only [go_sem,sevalprocAttr,↓reduceIte,reduceCtorEq,Vz]|apply ah<;>(intro h_;(try simp only [h_]);revert h_)|apply ai|apply aj|apply ae|apply And.intro|with_reducible intro h_|trivial|simp only [go_sem,ak];omega)
 ·exact vd fun hv=>by have:=hv.2.2.2.2.2 h (by omega);omega
 ·have h4:m.getD h 0<4*s.length:=by assumption
  refine ⟨bC.fn rfl (HO s m L h (by omega) (by omega) (by omega)) ?_⟩
  repeat' (first|omega|(try apply ag);simp only [go_sem,sevalprocAttr]|apply ah<;>(intro h_;(try simp only [h_]);revert h_)|apply ai|apply aj|apply ae|apply And.intro|with_reducible intro h_|trivial|simp only [go_sem,ak];omega)
  refine ⟨bC.fn rfl (HO s m L (m.getD h 0) (by assumption) h4 (by omega)) ?_⟩
  repeat' (first|omega|(try apply ag);simp only [go_sem,sevalprocAttr]|apply ah<;>(intro h_;(try simp only [h_]);revert h_)|apply ai|apply aj|apply ae|apply And.intro|with_reducible intro h_|trivial|simp only [go_sem,ak];omega)
  ·exact vd fun hv=>by have:=hv.2.2.2.2.2 h (by omega);simp_all
  ·refine ⟨_,_,_,?_,?_,⟨h+1,by omega,rfl,YK It ⟨by assumption,h4,by assumption,by assumption,by assumption⟩,rfl,rfl⟩⟩
   ·omega
   ·refine Wk.sub ?_ ?_<;>simp only [go_sem,sevalprocAttr]
 ·exact vd fun hv=>by have:=hv.2.2.2.2.2 h (by omega);omega
 ·exact vd fun hv=>by have:=hv.2.2.2.2.2 h (by omega);omega
 ·exact vd fun hv=>by have:=hv.2.2.2.2.2 h (by omega);omega
 ·have hm:m.length=4*s.length:=by omega
  obtain rfl:h=4*s.length:=by omega
  refine ⟨aA.fn rfl (YH s m L (by omega) ⟨hm,fun i hi=>⟨(It i hi).1,(It i hi).2.1⟩⟩) ?_⟩
  repeat' (first|omega|(try apply ag);simp only [go_sem,sevalprocAttr]|apply ah<;>(intro h_;(try simp only [h_]);revert h_)|apply ai|apply aj|apply ae|apply And.intro|with_reducible intro h_|trivial|simp only [go_sem,ak];omega)
  exact vbT ⟨by omega,hm,by assumption,by assumption,jJ,It⟩
abbrev dgC (s m:List Int) (L:Int):Cs:= .lst [roI s,roI m,I L]
attribute [go_sem] dgC
theorem Yp (h:Int) (h0:0<=h) (h1:h<=100000):Fn Tryz.prog 156 [I h] (I (dB h 2)):=by
 refine Fn.intro [.tmp 2] Tryz.func156 rfl rfl (by decide) (by simp [Tryz.ntmps156]) ?_;rw [Tryz.ntmps156]
 repeat' (first|omega|(try apply ag);simp only [go_sem,sevalprocAttr]|apply ah<;>(intro h_;(try simp only [h_]);revert h_)|apply ai|apply aj|apply ae|apply And.intro|with_reducible intro h_|trivial|simp only [go_sem,ak];omega)
 refine ⟨aA.fn rfl (Kh h 2 h0 h1) ?_⟩
 repeat' (first|omega|(try apply ag);simp only [go_sem,sevalprocAttr]|apply ah<;>(intro h_;(try simp only [h_]);revert h_)|apply ai|apply aj|apply ae|apply And.intro|with_reducible intro h_|trivial|simp only [go_sem,ak];omega)
theorem YQ (s m:List Int) (L h:Int) (h0:0<=h) (h1:h<4*s.length) (hs:s.length<=1000):Fn Tryz.prog 153 [I h, .rp (dgC s m L) 0] (.bool (aw s h)):=by
 refine Fn.intro [.tmp 3] Tryz.func153 rfl rfl (by decide) (by simp [Tryz.ntmps153]) ?_;rw [Tryz.ntmps153]
 repeat' (first|omega|(try apply ag);simp only [go_sem,sevalprocAttr]|apply ah<;>(intro h_;(try simp only [h_]);revert h_)|apply ai|apply aj|apply ae|apply And.intro|with_reducible intro h_|trivial|simp only [go_sem,ak];omega)
 refine ⟨aA.fn rfl (HO s m L h h0 h1 hs) ?_⟩
 repeat' (first|omega|(try apply ag);simp only [go_sem,sevalprocAttr]|apply ah<;>(intro h_;(try simp only [h_]);revert h_)|apply ai|apply aj|apply ae|apply And.intro|with_reducible intro h_|trivial|simp only [go_sem,ak];omega)
theorem YZ (s m:List Int) (L h:Int) (h0:0<=h) (h1:h<m.length) (g0:0<=m.getD h.toNat 0) (g1:m.getD h.toNat 0<=100000):Fn Tryz.prog 155 [I h, .rp (dgC s m L) 0] (I (dB (m.getD h.toNat 0) 2)):=by
 refine Fn.intro [.tmp 3] Tryz.func155 rfl rfl (by decide) (by simp [Tryz.ntmps155]) ?_;rw [Tryz.ntmps155]
 repeat' (first|omega|(try apply ag);simp only [go_sem,sevalprocAttr]|apply ah<;>(intro h_;(try simp only [h_]);revert h_)|apply ai|apply aj|apply ae|apply And.intro|with_reducible intro h_|trivial|simp only [go_sem,ak];omega)
 refine ⟨aA.fn rfl (Yp _ g0 g1) ?_⟩
 repeat' (first|omega|(try apply ag);simp only [go_sem,sevalprocAttr]|apply ah<;>(intro h_;(try simp only [h_]);revert h_)|apply ai|apply aj|apply ae|apply And.intro|with_reducible intro h_|trivial|simp only [go_sem,ak];omega)
theorem ZC (g:Nat) (c:Cs) (nx:Int->Int) (x:Int) (k:Nat) (hk:sb nx x k) (hb:k<=100000) (hf: ∀j,j<k->Fn Tryz.prog g [I (it nx j x), .rp c 0] (I (it nx (j+1) x))):
  Fn Tryz.prog 178 [I x, .fn g [.rp c 0]] (roI (its nx x k)):=by
 have k0:=hk.pos;refine Fn.intro [.tmp 4] Tryz.func178 rfl rfl (by decide) (by simp [Tryz.ntmps178]) ?_;rw [Tryz.ntmps178]
 repeat' (first|omega|(try apply ag);simp only [go_sem,sevalprocAttr]|apply ah<;>(intro h_;(try simp only [h_]);revert h_)|apply ai|apply aj|apply ae|apply And.intro|with_reducible intro h_|trivial|simp only [go_sem,ak];omega)
 refine ⟨aA.fn rfl (hf 0 k0) ?_⟩
 repeat' (first|omega|(try apply ag);simp only [go_sem,sevalprocAttr]|apply ah<;>(intro h_;(try simp only [h_]);revert h_)|apply ai|apply aj|apply ae|apply And.intro|with_reducible intro h_|trivial|simp only [go_sem,ak];omega)
 refine bV.intro (fun n fr H=> ∃j:Nat,0<j/\j<=k/\n=k-j/\fr=[(6,I (it nx j x)),(5, .sl 1 0 0 j),(1, .fn g [.rp c 0]),(0,I x)]/\H=[(0, .cells 3 (.ints (its nx x j)))]) ?_ ?_
 ·refine ⟨_,_,_,?_,1,by omega,by omega,rfl,rfl,rfl⟩;refine Wk.sub ?_ ?_<;>simp only [go_sem,sevalprocAttr];rfl
 rintro n fr H ⟨j,hj,qa,rfl,rfl,rfl⟩;have e1:=Kl nx x j;have e2:=Kl nx x k;by_cases cO:j<k
 ·have az:=hk.first j hj cO
  repeat' (first|omega|(try apply ag);simp only [go_sem,sevalprocAttr]|apply ah<;>(intro h_;(try simp only [h_]);revert h_)|apply ai|apply aj|apply ae|apply And.intro|with_reducible intro h_|trivial|simp only [go_sem,ak];omega)
  refine ⟨aA.fn rfl (hf j cO) ?_⟩
  repeat' (first|omega|(try apply ag);simp only [go_sem,sevalprocAttr]|apply ah<;>(intro h_;(try simp only [h_]);revert h_)|apply ai|apply aj|apply ae|apply And.intro|with_reducible intro h_|trivial|simp only [go_sem,ak];omega)
  refine ⟨_,_,_,?_,?_,⟨j+1,by omega,by omega,rfl,rfl,rfl⟩⟩
  ·omega
  ·refine Wk.sub ?_ ?_<;>simp only [go_sem,sevalprocAttr];exact (SA nx x j).symm
 ·obtain rfl:j=k:=by omega
  have az:=hk.back
  repeat' (first|omega|(try apply ag);simp only [go_sem,sevalprocAttr]|apply ah<;>(intro h_;(try simp only [h_]);revert h_)|apply ai|apply aj|apply ae|apply And.intro|with_reducible intro h_|trivial|simp only [go_sem,ak];omega)
  exact List.take_of_length_le (by omega)
theorem y4m (N:Nat) (w g:Nat) (c:Cs) (want:Int->Bool) (orb:Int->List Int) (hN:N<=10000) (hw: ∀h:Nat,h<N->Fn Tryz.prog w [I h, .rp c 0] (.bool (want h)))
  (ho: ∀h:Nat,h<N->want h=true->(orb h).length<=N/\(∀x∈orb h,0<=x/\x<N)/\Fn Tryz.prog 178 [I h, .fn g [.rp c 0]] (roI (orb h))):
  Fn Tryz.prog 154 [I N, .fn w [.rp c 0], .fn g [.rp c 0]] (wg (a7 N want orb N).1):=by
 refine Fn.aq [.tmp 6] Tryz.func154 rfl rfl (by decide) (by simp [Tryz.ntmps154]) ?_;rw [Tryz.ntmps154]
 repeat' (first|omega|(try apply ag);simp only [go_sem,sevalprocAttr]|apply ah<;>(intro h_;(try simp only [h_]);revert h_)|apply ai|apply aj|apply ae|apply And.intro|with_reducible intro h_|trivial|simp only [go_sem,ak];omega)
 refine bV.intro (fun n fr H=> ∃h:Nat,h<=N/\n=N-h/\(((a7 N want orb h).1=[]/\fr=[(16,I h),(15,I N),(8, .sl 1 0 0 N),(7, .nils),(1, .fn w [.rp c 0]),(2, .fn g [.rp c 0])]/\H=[(0, .cells 4 (.bools (a7 N want orb h).2))])\/
  (fr=[(16,I h),(15,I N),(8, .sl 1 0 0 N),(7, .sl 1 2 0 (a7 N want orb h).1.length),(1, .fn w [.rp c 0]),(2, .fn g [.rp c 0])]/\H=[(2, .cells 22 (.lst ((a7 N want orb h).1.map qA))),(0, .cells 4 (.bools (a7 N want orb h).2))]))) ?_ ?_
 ·refine ⟨_,_,_,?_,0,by omega,rfl, .inl ⟨rfl,rfl,rfl⟩⟩;refine Wk.sub ?_ ?_<;>simp only [go_sem,sevalprocAttr];rfl
 rintro n fr H ⟨h,hh,rfl,qO⟩;obtain ⟨e1,e2⟩:=Hq N want orb h;rcases qO with ⟨fH,rfl,rfl⟩|⟨rfl,rfl⟩
 ·by_cases aG:h<N
  ·have Pg:=hw h aG
   repeat' (first|omega|(try apply ag);simp only [go_sem,sevalprocAttr]|apply ah<;>(intro h_;(try simp only [h_]);revert h_)|apply ai|apply aj|apply ae|apply And.intro|with_reducible intro h_|trivial|simp only [go_sem,ak];omega)
   ·refine ⟨aA.fn rfl Pg ?_⟩
    repeat' (first|omega|(try apply ag);simp only [go_sem,sevalprocAttr]|apply ah<;>(intro h_;(try simp only [h_]);revert h_)|apply ai|apply aj|apply ae|apply And.intro|with_reducible intro h_|trivial|simp only [go_sem,ak];omega)
    ·have hwt:want h=false:=by assumption
     have eS:a7 N want orb (h+1)=a7 N want orb h:=by simp only [a7,kX];rw [if_pos (by rw [hwt];simp)]
     refine ⟨_,_,_,?_,?_,⟨h+1,by omega,rfl, .inl ⟨by rw [eS];exact fH,rfl,rfl⟩⟩⟩
     ·omega
     ·refine Wk.sub ?_ ?_<;>(simp only [go_sem,sevalprocAttr];try rw [eS];try simp only [yga,and_self])
    ·have hwt:want h=true:=by assumption
     have Pv:(a7 N want orb h).2.getD h false=false:=by assumption
     have eS:a7 N want orb (h+1)=((a7 N want orb h).1++[orb h],j5 (a7 N want orb h).2 (orb h)):=by simp only [a7,kX];rw [if_neg (by rw [hwt,Pv];simp)]
     obtain ⟨o1,o2,o3⟩:=ho h aG hwt;refine ⟨aA.fn rfl o3 ?_⟩
     repeat' (first|omega|(try apply ag);simp only [go_sem,sevalprocAttr]|apply ah<;>(intro h_;(try simp only [h_]);revert h_)|apply ai|apply aj|apply ae|apply And.intro|with_reducible intro h_|trivial|simp only [go_sem,ak];omega)
     generalize (a7 N want orb h).2=iG at*
     refine bV.intro (fun n fr H=> ∃k:Nat,k<=(orb h).length/\n=(orb h).length-k/\fr=[(34,I k),(33,I (orb h).length),(32,roI (orb h)),(10,roI (orb h)),(16,I h),(15,I N),(8, .sl 1 0 0 N),(7, .nils),(1, .fn w [.rp c 0]),(2, .fn g [.rp c 0])]/\
      H=[(0, .cells 4 (.bools (j5 iG ((orb h).take k))))]) ?_ ?_
     ·refine ⟨_,_,_,?_,0,by omega,rfl,rfl,rfl⟩;refine Wk.sub ?_ ?_<;>simp only [go_sem,sevalprocAttr]
      all_goals simp [j5]
     rintro n fr H ⟨k,hk,rfl,rfl,rfl⟩;have ml:=Lo ((orb h).take k) iG;by_cases bN:k<(orb h).length
     ·have hr:=o2 ((orb h).getD k 0) (by simp [bN])
      repeat' (first|omega|(try apply ag);simp only [go_sem,sevalprocAttr]|apply ah<;>(intro h_;(try simp only [h_]);revert h_)|apply ai|apply aj|apply ae|apply And.intro|with_reducible intro h_|trivial|simp only [go_sem,ak];omega)
      refine ⟨_,_,_,?_,?_,⟨k+1,by omega,rfl,rfl,rfl⟩⟩
      ·omega
      ·refine Wk.sub ?_ ?_<;>simp only [go_sem,sevalprocAttr];rw [List.take_succ_eq_append_getElem bN,LL];simp [j5,bN]
     ·obtain rfl:k=(orb h).length:=by omega
      rw [List.take_of_length_le (Nat.le_refl _)]
      repeat' (first|omega|(try apply ag);simp only [go_sem,sevalprocAttr]|apply ah<;>(intro h_;(try simp only [h_]);revert h_)|apply ai|apply aj|apply ae|apply And.intro|with_reducible intro h_|trivial|simp only [go_sem,ak];omega)
      refine ⟨_,_,_,?_,?_,⟨h+1,by omega,rfl, .inr ⟨rfl,rfl⟩⟩⟩
      ·omega
      ·refine Wk.sub ?_ ?_<;>(simp only [go_sem,sevalprocAttr];rw [eS];simp only [go_sem,sevalprocAttr])
       all_goals simp_all [qA]
   ·have bH:(a7 N want orb h).2.getD h false=true:=by assumption
    have eS:a7 N want orb (h+1)=a7 N want orb h:=by simp only [a7,kX];rw [if_pos (by rw [bH];simp)]
    refine ⟨_,_,_,?_,?_,⟨h+1,by omega,rfl, .inl ⟨by rw [eS];exact fH,rfl,rfl⟩⟩⟩
    ·omega
    ·refine Wk.sub ?_ ?_<;>(simp only [go_sem,sevalprocAttr];try rw [eS];try simp only [yga,and_self])
  ·obtain rfl:h=N:=by omega
   repeat' (first|omega|(try apply ag);simp only [go_sem,sevalprocAttr]|apply ah<;>(intro h_;(try simp only [h_]);revert h_)|apply ai|apply aj|apply ae|apply And.intro|with_reducible intro h_|trivial|simp only [go_sem,ak];omega)
   all_goals first|(rw [fH];exact aR.nils (by omega) rfl)|(exact Tj _ _ _ _ ‹_›)|exact aR.of (by rw [List.take_of_length_le (by simp)])
 ·by_cases aG:h<N
  ·have Pg:=hw h aG
   repeat' (first|omega|(try apply ag);simp only [go_sem,sevalprocAttr]|apply ah<;>(intro h_;(try simp only [h_]);revert h_)|apply ai|apply aj|apply ae|apply And.intro|with_reducible intro h_|trivial|simp only [go_sem,ak];omega)
   ·refine ⟨aA.fn rfl Pg ?_⟩
    repeat' (first|omega|(try apply ag);simp only [go_sem,sevalprocAttr]|apply ah<;>(intro h_;(try simp only [h_]);revert h_)|apply ai|apply aj|apply ae|apply And.intro|with_reducible intro h_|trivial|simp only [go_sem,ak];omega)
    ·have hwt:want h=false:=by assumption
     have eS:a7 N want orb (h+1)=a7 N want orb h:=by simp only [a7,kX];rw [if_pos (by rw [hwt];simp)]
     refine ⟨_,_,_,?_,?_,⟨h+1,by omega,rfl, .inr ⟨rfl,rfl⟩⟩⟩
     ·omega
     ·refine Wk.sub ?_ ?_<;>(simp only [go_sem,sevalprocAttr];try rw [eS];try simp only [yga,and_self])
    ·have hwt:want h=true:=by assumption
     have Pv:(a7 N want orb h).2.getD h false=false:=by assumption
     have eS:a7 N want orb (h+1)=((a7 N want orb h).1++[orb h],j5 (a7 N want orb h).2 (orb h)):=by simp only [a7,kX];rw [if_neg (by rw [hwt,Pv];simp)]
     obtain ⟨o1,o2,o3⟩:=ho h aG hwt;refine ⟨aA.fn rfl o3 ?_⟩
     repeat' (first|omega|(try apply ag);simp only [go_sem,sevalprocAttr]|apply ah<;>(intro h_;(try simp only [h_]);revert h_)|apply ai|apply aj|apply ae|apply And.intro|with_reducible intro h_|trivial|simp only [go_sem,ak];omega)
     generalize (a7 N want orb h).2=iG at*
     refine bV.intro (fun n fr H=> ∃k:Nat,k<=(orb h).length/\n=(orb h).length-k/\fr=[(34,I k),(33,I (orb h).length),(32,roI (orb h)),(10,roI (orb h)),(16,I h),(15,I N),(8, .sl 1 0 0 N),(7, .sl 1 2 0 (a7 N want orb h).1.length),(1, .fn w [.rp c 0]),(2, .fn g [.rp c 0])]/\
      H=[(2, .cells 22 (.lst ((a7 N want orb h).1.map qA))),(0, .cells 4 (.bools (j5 iG ((orb h).take k))))]) ?_ ?_
     ·refine ⟨_,_,_,?_,0,by omega,rfl,rfl,rfl⟩;refine Wk.sub ?_ ?_<;>simp only [go_sem,sevalprocAttr]
      all_goals simp [j5]
     rintro n fr H ⟨k,hk,rfl,rfl,rfl⟩;have ml:=Lo ((orb h).take k) iG;by_cases bN:k<(orb h).length
     ·have hr:=o2 ((orb h).getD k 0) (by simp [bN])
      repeat' (first|omega|(try apply ag);simp only [go_sem,sevalprocAttr]|apply ah<;>(intro h_;(try simp only [h_]);revert h_)|apply ai|apply aj|apply ae|apply And.intro|with_reducible intro h_|trivial|simp only [go_sem,ak];omega)
      refine ⟨_,_,_,?_,?_,⟨k+1,by omega,rfl,rfl,rfl⟩⟩
      ·omega
      ·refine Wk.sub ?_ ?_<;>simp only [go_sem,sevalprocAttr];rw [List.take_succ_eq_append_getElem bN,LL];simp [j5,bN]
     ·obtain rfl:k=(orb h).length:=by omega
      rw [List.take_of_length_le (Nat.le_refl _)]
      repeat' (first|omega|(try apply ag);simp only [go_sem,sevalprocAttr]|apply ah<;>(intro h_;(try simp only [h_]);revert h_)|apply ai|apply aj|apply ae|apply And.intro|with_reducible intro h_|trivial|simp only [go_sem,ak];omega)
      refine ⟨_,_,_,?_,?_,⟨h+1,by omega,rfl, .inr ⟨rfl,rfl⟩⟩⟩
      ·omega
      ·refine Wk.sub ?_ ?_<;>(simp only [go_sem,sevalprocAttr];rw [eS];simp only [go_sem,sevalprocAttr])
       all_goals simp_all [qA]
   ·have bH:(a7 N want orb h).2.getD h false=true:=by assumption
    have eS:a7 N want orb (h+1)=a7 N want orb h:=by simp only [a7,kX];rw [if_pos (by rw [bH];simp)]
    refine ⟨_,_,_,?_,?_,⟨h+1,by omega,rfl, .inr ⟨rfl,rfl⟩⟩⟩
    ·omega
    ·refine Wk.sub ?_ ?_<;>(simp only [go_sem,sevalprocAttr];try rw [eS];try simp only [yga,and_self])
  ·obtain rfl:h=N:=by omega
   repeat' (first|omega|(try apply ag);simp only [go_sem,sevalprocAttr]|apply ah<;>(intro h_;(try simp only [h_]);revert h_)|apply ai|apply aj|apply ae|apply And.intro|with_reducible intro h_|trivial|simp only [go_sem,ak];omega)
   all_goals first|(rw [fH];exact aR.nils (by omega) rfl)|(exact Tj _ _ _ _ ‹_›)|exact aR.of (by rw [List.take_of_length_le (by simp)])
def Vy:Tr:= .node [(0, .node [(1, .node [(2, .node [(3, .node [(4, .node [(5, .node [(6, .done)])])])]),(3, .node [(2, .node [(4, .node [(5, .node [(6, .done)])])]),(4, .node [(2, .node [(5, .node [(6, .done)])])])])]),(3, .node [(1, .node [(2, .node [(4, .node [(5, .node [(6, .done)])])]),(4, .node [(2, .node [(5, .node [(6, .done)])])])]),(4, .node [(1, .node [(2, .node [(5, .node [(6, .done)])])])])])]),(3, .node [(0, .node [(1, .node [(2, .node [(4, .node [(5, .node [(6, .done)])])]),(4, .node [(2, .node [(5, .node [(6, .done)])])])]),(4, .node [(1, .node [(2, .node [(5, .node [(6, .done)])])])])]),(4, .node [(0, .node [(1, .node [(2, .node [(5, .node [(6, .done)])])])])])])]
def BK (s m:List Int) (L:Int):List (List Int):=if bF s m L then a8 s m else []
theorem Ob (s m:List Int) (L:Int) (hv:Bn s m L) (h:Nat) (hh:h<4*s.length):(aY (bE m) m.length h).length<=m.length/\(∀x∈aY (bE m) m.length h,0<=x/\x<m.length)/\
  Fn Tryz.prog 178 [I h, .fn 155 [.rp (dgC s m L) 0]] (roI (aY (bE m) m.length h)):=by
 have hR:au s.length (h:Int):=by unfold au;omega
 have hl:=hv.len;have qh:=hv.s64;have kv:=zt (xx hv.prd) hR;rw [←hl] at kv;obtain ⟨_,o2,_,_,_,o6,_,k,hk,lJ,e⟩:=kv;refine ⟨o6,fun x hx=>by have:=o2 x hx;unfold au at this;omega,?_⟩;rw [e];refine ZC _ _ (bE m) h k lJ (by omega) fun j hj=>?_;have hr:=(xx hv.prd).it hR j;have Iq:=hv.prd.cn hr;unfold au at hr Iq;exact YZ s m L _ hr.1 (by omega) Iq.1 (by omega)
theorem Ly (s m:List Int) (L:Int):Fn Tryz.prog 103 [dgA s m L] (wg (BK s m L)):=by
 refine Fn.aq [.tmp 2] Tryz.func103 rfl rfl (by decide) (by simp [Tryz.ntmps103]) ?_;rw [Tryz.ntmps103]
 repeat' (first|omega|(try apply ag);simp only [go_sem,sevalprocAttr]|apply ah<;>(intro h_;(try simp only [h_]);revert h_)|apply ai|apply aj|apply ae|apply And.intro|with_reducible intro h_|trivial|simp only [go_sem,ak];omega)
 refine ⟨aA.fn rfl (l8 s m L) ?_⟩;cases hv:bF s m L with
 |false=>
  repeat' (first|omega|(try apply ag);simp only [go_sem,sevalprocAttr]|apply ah<;>(intro h_;(try simp only [h_]);revert h_)|apply ai|apply aj|apply ae|apply And.intro|with_reducible intro h_|trivial|simp only [go_sem,ak];omega)
  unfold BK;rw [hv];exact aR.nils (by omega) rfl
 |true=>
  have v1:=cK hv;have qh:=v1.s64;have hl:=v1.len
  repeat' (first|omega|(try apply ag);simp only [go_sem,sevalprocAttr]|apply ah<;>(intro h_;(try simp only [h_]);revert h_)|apply ai|apply aj|apply ae|apply And.intro|with_reducible intro h_|trivial|simp only [go_sem,ak];omega)
  refine ⟨aA.ln [0] rfl (by simp only [go_sem,sevalprocAttr]) (by simp only [go_sem,sevalprocAttr]) (by simp only [go_sem,sevalprocAttr]) (by simp only [go_sem,sevalprocAttr]) rfl rfl rfl (aA.fn rfl (y4m m.length _ _ (dgC s m L) (aw s) (aY (bE m) m.length) (by omega) (fun h hh=>YQ s m L h (by omega) (by omega) (by omega)) (fun h hh _=>Ob s m L v1 h (by omega))) ?_)⟩
  repeat' (first|omega|(try apply ag);simp only [go_sem,sevalprocAttr]|apply ah<;>(intro h_;(try simp only [h_]);revert h_)|apply ai|apply aj|apply ae|apply And.intro|with_reducible intro h_|trivial|simp only [go_sem,ak];omega)
  unfold BK a8;rw [hv];exact aR.refl _
theorem HU (s m:List Int) (L:Int):Fn Tryz.prog 42 [dgA s m L] (I (if bF s m L then (a8 s m).length+L else 0)):=by
 refine Fn.intro [.tmp 2] Tryz.func42 rfl rfl (by decide) (by simp [Tryz.ntmps42]) ?_;rw [Tryz.ntmps42]
 repeat' (first|omega|(try apply ag);simp only [go_sem,sevalprocAttr]|apply ah<;>(intro h_;(try simp only [h_]);revert h_)|apply ai|apply aj|apply ae|apply And.intro|with_reducible intro h_|trivial|simp only [go_sem,ak];omega)
 refine ⟨aA.fn rfl (l8 s m L) ?_⟩;have hS:=Ly s m L;unfold BK at hS;have cL:=zu s m;cases hv:bF s m L with
 |false=>
  repeat' (first|omega|(try apply ag);simp only [go_sem,sevalprocAttr]|apply ah<;>(intro h_;(try simp only [h_]);revert h_)|apply ai|apply aj|apply ae|apply And.intro|with_reducible intro h_|trivial|simp only [go_sem,ak];omega)
 |true=>
  rw [hv,if_pos rfl] at hS;have v1:=cK hv;have qh:=v1.s64;have hl:=v1.len;have h0:=v1.l0;have h1:=v1.vi
  repeat' (first|omega|(first|apply ag|(refine an.intro (id:=3) [[9,10],[9,10],[9,10],[6,7,8],[6,7,8],[],[]] [[],[],[],[0,1,2],[0,1,2],[],[]] (by decide+kernel) mixed ?_)|(refine an.aB (id:=3) (Vy) (by decide+kernel) mixed ?_)|skip);simp only [go_sem,sevalprocAttr,↓reduceIte,reduceCtorEq,Vy]|apply ah<;>(intro h_;(try simp only [h_]);revert h_)|apply ai|apply aj|apply ae|apply And.intro|with_reducible intro h_|trivial|simp only [go_sem,ak];omega)
  refine ⟨bC.fn rfl hS ?_⟩
  repeat' (first|omega|(try apply ag);simp only [go_sem,sevalprocAttr]|apply ah<;>(intro h_;(try simp only [h_]);revert h_)|apply ai|apply aj|apply ae|apply And.intro|with_reducible intro h_|trivial|simp only [go_sem,ak];omega)
end Go.Proofs.YtphjphpmfflfpaaGreatDoor
