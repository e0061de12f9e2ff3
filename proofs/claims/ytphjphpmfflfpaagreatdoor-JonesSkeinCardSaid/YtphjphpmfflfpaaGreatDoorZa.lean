/- Layer 1: contracts of the program's functions on diagrams. -/
import Derived.Test.YtphjphpmfflfpaaGreatDoorTy
import Derived.Test.YtphjphpmfflfpaaGreatDoorPl
import Derived.Test.YtphjphpmfflfpaaGreatDoorRows
import Derived.ProofKit
import Derived.LaidMore
import Derived.OpenShut
import Derived.Stop.Joined
import Derived.ReadAgain
import Derived.Lib.SmallJoins
import Derived.ChangeSlices
import Derived.Test.YtphjphpmfflfpaaGreatDoorTie
import Derived.Test.YtphjphpmfflfpaaGreatDoorCards
import Derived.SevenTiedAt
import Derived.Deep.Grids
set_option linter.unusedSimpArgs false
set_option linter.unusedVariables false
namespace Go.Proofs.YtphjphpmfflfpaaGreatDoor
open Go Go.RowKit
set_option maxRecDepth 100000
abbrev roI (l:List Int):AV:= .ro 1 l.length (.ints l)
abbrev roB (l:List Bool):AV:= .ro 1 l.length (.bools l)
abbrev dgA (s m:List Int) (L:Int):AV:= .agg [roI s,roI m,I L]
attribute [go_sem] roI roB dgA
def oN (l:List Int):AV:= .ro 1 l.length (.ints l)
abbrev uc (ls:List (List Int)):AV:= .ro 1 ls.length (.lst (ls.map oN))
theorem y0z (H:Hp) (l:List Int):s3 H (oN l)=true:=rfl
theorem yfd (H:Hp) (ls:List (List Int)):ls.all (s3 H∘oN)=true:=by simp [y0z]
theorem y8s (n:Nat):cutV n∘oN=oN:=by funext l;rfl
theorem y4x (H:Hp) (n:Nat):snap H (n+1)∘oN=oN:=by funext l;rfl
theorem Pv (H:Hp) (n:Nat) (ls:List (List Int)): ∀x∈ls.map oN,cE H (n+1) x:=fun x hx=>by
 obtain ⟨l,_,rfl⟩:=List.mem_map.1 hx;trivial
theorem V2 (ls:List (List Int)) (i:Nat) (h:i<ls.length):(ls.map oN).getD i .any=roI (ls.getD i []):=by simp [h,oN]
attribute [go_sem] y0z yfd y8s y4x
theorem Nf {a b:Int} (h:0<=a):a.tmod b=a % b:=Int.tmod_eq_emod_of_nonneg h
theorem sW {a b:Int} (h:0<=a):a.tdiv b=a/b:=Int.tdiv_eq_ediv_of_nonneg h
theorem UY (h b:Int) (h0:0<=h) (h1:h<=100000):Fn Tryz.prog 152 [I h,I b] (I (h-h % 4+(h % 4+b.tmod 4+4)% 4)):=by
 have e1:h.tmod 4=h % 4:=Int.tmod_eq_emod_of_nonneg h0;have e2: -4<b.tmod 4/\b.tmod 4<4:=⟨Int.lt_tmod_of_pos b (by decide),Int.tmod_lt_of_pos b (by decide)⟩;have e3:(h % 4+b.tmod 4+4).tmod 4=(h % 4+b.tmod 4+4)% 4:=Int.tmod_eq_emod_of_nonneg (by omega);refine Fn.intro [.tmp 4] Tryz.func152 rfl rfl (by decide) (by simp [Tryz.ntmps152]) ?_;rw [Tryz.ntmps152]
 repeat' (first|omega|(try apply aj);simp only [go_sem,sevalprocAttr]|apply ag<;>(intro h_;(try simp only [h_]);revert h_)|apply ah|apply ai|apply ae|apply And.intro|with_reducible intro h_|trivial|simp only [go_sem,ak];omega)
 all_goals try simp only [e1,e3]
 all_goals try omega
theorem Iz (s m:List Int) (L h:Int) (h0:0<=h) (h1:h<4*s.length) (hs:s.length<=1000):Fn Tryz.prog 107 [dgA s m L,I h] (.bool (bV s h)):=by
 have e1:h.tmod 4=h % 4:=Int.tmod_eq_emod_of_nonneg h0;have e2:h.tdiv 4=h/4:=Int.tdiv_eq_ediv_of_nonneg h0;refine Fn.intro [.tmp 4] Tryz.func107 rfl rfl (by decide) (by simp [Tryz.ntmps107]) ?_;rw [Tryz.ntmps107]
 repeat' (first|omega|(try apply aj);simp only [go_sem,sevalprocAttr]|apply ag<;>(intro h_;(try simp only [h_]);revert h_)|apply ah|apply ai|apply ae|apply And.intro|with_reducible intro h_|trivial|simp only [go_sem,ak];omega)
 all_goals try simp only [e1,e2] at*
 all_goals try omega
 all_goals simp_all [bV]
theorem V1 (s m:List Int) (L:Int) (hs:s.length<=1000) (hm:iP m s.length):Fn Tryz.prog 160 [dgA s m L] (.tup [roI (eH m s.length).1,I (eH m s.length).2]):=by
 refine Fn.intro [.tmp 2, .tmp 3] Tryz.func160 rfl rfl (by decide) (by simp [Tryz.ntmps160]) ?_;rw [Tryz.ntmps160]
 repeat' (first|omega|(try apply aj);simp only [go_sem,sevalprocAttr]|apply ag<;>(intro h_;(try simp only [h_]);revert h_)|apply ah|apply ai|apply ae|apply And.intro|with_reducible intro h_|trivial|simp only [go_sem,ak];omega)
 refine bN.intro (fun n fr H=> ∃k:Nat,k<=s.length/\n=s.length-k/\fr=[(18,I k),(17,I s.length),(4, .sl 1 1 0 s.length),(1, .ptr 0 0)]/\H=[(1, .cells 3 (.ints (List.replicate k (-1)++List.replicate (s.length-k) 0))),(0, .cells 24 (.lst [roI s,roI m,I L]))]) ?_ ?_
 ·refine ⟨_,_,_,?_,0,by omega,rfl,rfl,rfl⟩;refine Wk.sub ?_ ?_<;>simp only [go_sem,sevalprocAttr];simp
 rintro n fr H ⟨k,hk,rfl,rfl,rfl⟩
 repeat' (first|omega|(try apply aj);simp only [go_sem,sevalprocAttr]|apply ag<;>(intro h_;(try simp only [h_]);revert h_)|apply ah|apply ai|apply ae|apply And.intro|with_reducible intro h_|trivial|simp only [go_sem,ak];omega)
 ·refine ⟨_,_,_,?_,?_,⟨k+1,by omega,rfl,rfl,rfl⟩⟩
  ·omega
  ·refine Wk.sub ?_ ?_<;>simp only [go_sem,sevalprocAttr];exact V7 _ _ _ _ (by omega)
 obtain rfl:k=s.length:=by omega
 refine bN.intro (fun n fr H=> ∃k:Nat,k<=s.length/\n=s.length-k/\fr=[(27,I k),(26,I s.length),(6,I (bB m s.length k).2),(4, .sl 1 1 0 s.length),(1, .ptr 0 0)]/\H=[(1, .cells 3 (.ints (bB m s.length k).1)),(0, .cells 24 (.lst [roI s,roI m,I L]))]) ?_ ?_
 ·refine ⟨_,_,_,?_,0,by omega,rfl,rfl,rfl⟩;refine Wk.sub ?_ ?_<;>simp only [go_sem,sevalprocAttr]
  ·simp [bB]
  ·simp [bB]
 rintro n fr H ⟨k,hk,rfl,rfl,rfl⟩;obtain ⟨aD,aK,X0⟩:=zZ hm k hk;have jK:=aD.1
 repeat' (first|omega|(try apply aj);simp only [go_sem,sevalprocAttr]|apply ag<;>(intro h_;(try simp only [h_]);revert h_)|apply ah|apply ai|apply ae|apply And.intro|with_reducible intro h_|trivial|simp only [go_sem,ak];omega)
 ·refine ⟨_,_,_,?_,?_,⟨k+1,by omega,rfl,rfl,rfl⟩⟩
  ·omega
  ·have e:bB m s.length (k+1)=bB m s.length k:=by simp only [bB,y6];rw [if_pos (by assumption)]
   refine Wk.sub ?_ ?_<;>(simp only [go_sem,sevalprocAttr];rw [e])
 ·have n9:(bB m s.length k).1.getD k 0<0:=by assumption
  have uw:k<s.length:=by omega
  have eN:bB m s.length (k+1)=(bfs m (bB m s.length k).2 (2*s.length+1) ((bB m s.length k).1.set k (bB m s.length k).2) [(k:Int)],(bB m s.length k).2+1):=by simp only [bB,y6];rw [if_neg (by omega)]
  have jN:=HH (i:=k) (by omega) n9 aK;have iO:=NK (bB m s.length k).1;have jq:qA s.length (bB m s.length k).2 ((bB m s.length k).1.set k (bB m s.length k).2):=⟨by simp [jK],fun i hi=>by
   by_cases e:k=i
   ·subst e;rw [kl (by omega)];omega
   ·rw [j9 e];exact aD.2 i hi⟩
  generalize (bB m s.length k).1.set k (bB m s.length k).2=vt at*
  refine bN.intro (fun f fr H=> ∃(part q cq:List Int) (off:Nat),2*kr part+q.length<=f/\f<=2*s.length+1/\qA s.length (bB m s.length k).2 part/\vr s.length q/\off+q.length=cq.length/\cq.drop off=q/\bfs m (bB m s.length k).2 f part q=bfs m (bB m s.length k).2 (2*s.length+1) vt [(k:Int)]/\
   fr=[(8, .sl 1 2 off q.length),(27,I k),(26,I s.length),(6,I (bB m s.length k).2),(4, .sl 1 1 0 s.length),(1, .ptr 0 0)]/\H=[(2, .cells 3 (.ints cq)),(1, .cells 3 (.ints part)),(0, .cells 24 (.lst [roI s,roI m,I L]))]) ?_ ?_
  ·refine ⟨_,_,_,?_,vt,[(k:Int)],[(k:Int)],0,?_,Nat.le_refl _,jq,fun x hx=>by simp at hx;omega,rfl,rfl,rfl,rfl,rfl⟩
   ·refine Wk.sub ?_ ?_<;>simp only [go_sem,sevalprocAttr]
   ·simp only [List.length_singleton];omega
  rintro f fr H ⟨part,q,cq,off,hf,Lq,uo,RZ,X2,Si,LC,rfl,rfl⟩;have XW:=uo.1
  repeat' (first|omega|(try apply aj);simp only [go_sem,sevalprocAttr]|apply ag<;>(intro h_;(try simp only [h_]);revert h_)|apply ah|apply ai|apply ae|apply And.intro|with_reducible intro h_|trivial|simp only [go_sem,ak];omega)
  ·--the four neighbours
   have oW:0<q.length:=by omega
   obtain ⟨c,q',rfl⟩: ∃c q',q=c::q':=by
    cases q with
    |nil=>simp at oW
    |cons c q'=>exact ⟨c,q',rfl⟩
   have FB:cq.getD off 0=c:=by
    have:=congrArg (fun l=>l.getD 0 0) Si
    simpa using this
   have Lu:cq.drop (off+1)=q':=by
    have:=congrArg List.tail Si
    simpa using this
   have zB:=RZ c (by simp);have KR:vr s.length q':=fun x hx=>RZ x (by simp [hx]);simp only [List.length_cons] at hf X2;rw [FB]
   refine bN.intro (fun j fr H=> ∃(i:Nat) (cq mP:_),j=4-i/\i<=4/\mP+(lb4 m c (bB m s.length k).2 (part,q') i).2.length=(cq:List Int).length/\cq.drop mP=(lb4 m c (bB m s.length k).2 (part,q') i).2/\
    fr=[(49,I i),(8, .sl 1 2 mP (lb4 m c (bB m s.length k).2 (part,q') i).2.length),(9,I c),(27,I k),(26,I s.length),(6,I (bB m s.length k).2),(4, .sl 1 1 0 s.length),(1, .ptr 0 0)]/\H=[(2, .cells 3 (.ints cq)),(1, .cells 3 (.ints (lb4 m c (bB m s.length k).2 (part,q') i).1)),(0, .cells 24 (.lst [roI s,roI m,I L]))]) ?_ ?_
   ·refine ⟨_,_,_,?_,0,cq,off+1,rfl,by omega,by simp only [lb4];omega,by simp only [lb4];exact Lu,rfl,rfl⟩;refine Wk.sub ?_ ?_<;>simp only [go_sem,sevalprocAttr]
    ·simp [lb4]
    ·simp [lb4]
   rintro j fr H ⟨i,cq,mP,rfl,hi,cG,tm,rfl,rfl⟩;obtain ⟨g1,g2,g3,g5⟩:=DJ hm zB aK (st:=(part,q')) uo KR i hi;have g1l:=g1.1;simp only at g3 g5;by_cases hi4:i<4
   ·have ju:=hm.2 (4*c+i).toNat (by omega);have fB:=hm.1;have e2:(m.getD (4*c+i).toNat 0).tdiv 4=m.getD (4*c+i).toNat 0/4:=sW ju.1;have w5:0<=m.getD (4*c+i).toNat 0/4/\m.getD (4*c+i).toNat 0/4<s.length:=by omega
    have eL:lb4 m c (bB m s.length k).2 (part,q') (i+1)=ks m c (bB m s.length k).2 i (lb4 m c (bB m s.length k).2 (part,q') i):=rfl
    repeat' (first|omega|(try apply aj);simp only [go_sem,sevalprocAttr,e2]|apply ag<;>(intro h_;(try simp only [h_]);revert h_)|apply ah|apply ai|apply ae|apply And.intro|with_reducible intro h_|trivial|simp only [go_sem,ak];omega)
    ·have R1:(lb4 m c (bB m s.length k).2 (part,q') i).1.getD (m.getD (4*c+i).toNat 0/4).toNat 0<0:=by assumption
     have eB:lb4 m c (bB m s.length k).2 (part,q') (i+1)=((lb4 m c (bB m s.length k).2 (part,q') i).1.set (m.getD (4*c+i).toNat 0/4).toNat (bB m s.length k).2,(lb4 m c (bB m s.length k).2 (part,q') i).2++[m.getD (4*c+i).toNat 0/4]):=by
      rw [eL];unfold ks;simp only;rw [if_pos R1]
     refine ⟨_,_,_,?_,?_,⟨i+1,cq.drop mP++[m.getD (4*c+i).toNat 0/4],0,rfl,by omega,?_,?_,rfl,rfl⟩⟩
     ·omega
     ·refine Wk.sub ?_ ?_<;>(rw [eB];simp only [go_sem,sevalprocAttr])
     ·rw [eB,tm];simp
     ·rw [eB,tm];simp
    ·have R1:0<=(lb4 m c (bB m s.length k).2 (part,q') i).1.getD (m.getD (4*c+i).toNat 0/4).toNat 0:=by assumption
     have eB:lb4 m c (bB m s.length k).2 (part,q') (i+1)=lb4 m c (bB m s.length k).2 (part,q') i:=by
      rw [eL];unfold ks;simp only;rw [if_neg (by omega)]
     refine ⟨_,_,_,?_,?_,⟨i+1,cq,mP,rfl,by omega,?_,?_,rfl,rfl⟩⟩
     ·omega
     ·refine Wk.sub ?_ ?_<;>(rw [eB];simp only [go_sem,sevalprocAttr])
     ·rw [eB];exact cG
     ·rw [eB];exact tm
   ·obtain rfl:i=4:=by omega
    repeat' (first|omega|(try apply aj);simp only [go_sem,sevalprocAttr]|apply ag<;>(intro h_;(try simp only [h_]);revert h_)|apply ah|apply ai|apply ae|apply And.intro|with_reducible intro h_|trivial|simp only [go_sem,ak];omega)
    obtain ⟨f',rfl⟩: ∃f',f=f'+1:=⟨f-1,by omega⟩;refine ⟨f',_,_,?_,?_,⟨(lb4 m c (bB m s.length k).2 (part,q') 4).1,(lb4 m c (bB m s.length k).2 (part,q') 4).2,cq,mP,?_,?_,g1,g2,cG,tm,?_,rfl,rfl⟩⟩
    ·omega
    ·refine Wk.sub ?_ ?_<;>simp only [go_sem,sevalprocAttr]
    ·omega
    ·omega
    ·rw [←LC];rfl
  ·obtain rfl:q=[]:=List.eq_nil_of_length_eq_zero (by omega);have eP:bfs m (bB m s.length k).2 f part []=part:=by unfold bfs;rfl
   rw [eP] at LC;refine ⟨_,_,_,?_,?_,⟨k+1,by omega,rfl,rfl,rfl⟩⟩
   ·omega
   ·refine Wk.sub ?_ ?_<;>(rw [eN];simp only [go_sem,sevalprocAttr]);exact LC
 ·obtain rfl:k=s.length:=by omega
  exact jK.symm
 ·obtain rfl:k=s.length:=by omega
  exact List.take_of_length_le (by omega)
 ·obtain rfl:k=s.length:=by omega
  rfl
end Go.Proofs.YtphjphpmfflfpaaGreatDoor
namespace Go.Proofs.YtphjphpmfflfpaaGreatDoor
set_option maxRecDepth 100000
open Go Go.Joins Go.ChangeShapes Go.WideShapes Go.ChangeAt Go.WideMaps Go.WideElems Go.RowKit
theorem kids:Kids Tryz.prog (· <Tryz.prog.types.size):=kids_rows (by kernel_rfl) (by kernel_rfl)
theorem full: ∀t e,t<Tryz.prog.types.size->Tryz.prog.underlying t=some (.slice e)->0<Tryz.prog.cellsOf e:=slices_full_of Tryz.prog (by kernel_rfl)
section
variable {H:Type} {enc:TypeId×Value->H}
theorem P6 {P:Program} {W W':World} {base:Nat} {sp:Nat->Bool} {held:Bool}: ∀{ts:List TypeId} {vs:List Value} {ds:List (DataW H)} {ps:List MemPlace},DataW.TrodAll enc P W base sp held ts vs ds ps->(∀p∈ps,W.sameAt W' p)->DataW.TrodAll enc P W' base sp held ts vs ds ps
 |[],[],[],_,h,_=>h
 |_::_,_::_,_::_,_,⟨p,q,⟨n,h1⟩,h2,e⟩,hs=>⟨p,q,⟨n,DataW.trod_carry n _ _ _ h1 (fun x hx=>hs x (by rw [e];exact List.mem_append_left _ hx))⟩,P6 h2 (fun x hx=>hs x (by rw [e];exact List.mem_append_right _ hx)),e⟩
theorem y40 {f:Func} {s:ChangeSpec} {apart fresh handsOn again:Bool} {W W':World} {args:Array Value} {ds gs:List (DataW H)} {before:List MemPlace}
  (hW:DataW.Whole enc Tryz.prog f.params.toList s.vars apart W args.toList ds gs before) (hv:s.vars=[]) (hT: ∀t∈f.params.toList,t<Tryz.prog.types.size)
  (hr:f.resultTypes= #[4]) (hs:s.fn H (ds++gs)={results:=[.lit (.bool true)],args:=ds}) (hb:Below W.heap.size W W'):
  s.post enc Tryz.prog f apart fresh handsOn again W args (.bool true) W':=by
 have hold: ∀p∈before,(fun b=>decide (b<W.heap.size)) p.block=true:=fun p hp=>by simpa using hW.lt p hp
 have aA: ∀p∈before,p.block<W.heap.size:=fun p hp=>hW.lt p hp;obtain ⟨p,q,hA,hV,oX,hz,hn⟩:=hW;have YH:DataW.Whole enc Tryz.prog f.params.toList s.vars apart W args.toList ds gs before:=⟨p,q,hA,hV,oX,hz,hn⟩;rw [hv] at hV;obtain ⟨rfl,rfl⟩:=trodVars_none hV;rw [List.append_nil] at oX;subst oX
 have pd: ∀sp:Nat->Bool,(∀x∈before,sp x.block=true)->DataW.TrodAll enc Tryz.prog W' 0 sp true f.params.toList args.toList ds before:=fun sp dT=>
  P6 (DataW.TrodAll.respare kids full hT hA dT) fun x hx=>hb.same (aA x hx)
 have mY: ∀(b:Nat) (sp:Nat->Bool) (hd:Bool),DataW.TrodAll enc Tryz.prog W' b sp hd f.resultTypes.toList ((Value.bool true).resultList f.resultTypes.size) [.lit (.bool true)] []:=fun b sp hd=>by
  rw [hr];exact trodAll_mk1 (shut_bool Tryz.underlying4 _)
 refine ⟨ds,[],before,[],before,[],YH,?_,?_,?_,hb.frame _,fun _=>?_⟩
 ·rw [hs];exact mY _ _ _
 ·rw [hs];exact pd _ hold
 ·rw [hv,hs];rfl
 ·refine ⟨?_,[.lit (.bool true)]++ds,[],[]++before,⟨[]++before,[],trodAll_append (pd _ (fun _ _=>rfl)) (mY _ _ _),?_,by simp,?_,?_⟩,?_⟩
  ·exact ok_one hr (by rfl) (okWide_bool_mk Tryz.underlying4 _)
  ·rw [hv];rfl
  ·intro b off hp;have df:MemPlace.cell b off∈before:=by simpa using hp
   rw [hb.frozen (aA _ df)];exact hz b off df
  ·intro ha
   have:=hn ha
   simpa using this
  ·intro p hp _;simpa using hp
theorem Nd {w:World} {fuel:Nat} {v:Value} {x:DataW H×List MemPlace} (h:DataW.trod enc Tryz.prog w 0 (fun _=>true) true fuel 22 [v]=some x): ∃s:List Int,VR w (fun _=>False) ρ0 (fun _=>False) v (roI s):=by
 rcases open_ints Tryz.underlying22 Tryz.underlying3 (by kernel_rfl) h with ⟨hc,_⟩|⟨a,len,cap,zs,hc,_,hl,_,hz,_,ei,_⟩
 ·simp only [List.cons.injEq,and_true] at hc;subst hc;exact ⟨[], .ro 1 0 (.ints []) none 0 (fun _=>undef) rfl (Nat.le_refl _) (by decide) (fun h=>absurd h (by decide)) (fun j hj=>by simp [Cs.len] at hj)⟩
 ·simp only [List.cons.injEq,and_true] at hc;subst hc;simp only [if_true] at hz;refine ⟨zs.take len,?_⟩;have e:(zs.take len).length=len:=by rw [List.length_take];omega
  unfold roI;rw [e];refine .ro 1 len (.ints (zs.take len)) (some a) cap (fun j=> .int .i64 (zs.getD j 0)) (by simp [Cs.len];omega) hl (by decide) (fun h0=>⟨a,rfl,?_,fun h=>h,fun j hj=>?_⟩) fun j hj=>?_
  ·have h1:=ei 0 (by omega);unfold World.cell? at h1;rw [show (a.add 0)=a from rfl] at h1
   split at h1
   ·rename_i hb;exact (Array.getElem?_eq_some_iff.1 hb).1
   ·cases h1
  ·exact ei j (by simp [Cs.len] at hj;omega)
  ·have dE:j<len:=by simp [Cs.len] at hj;omega
   simp only [Cs.get];rw [show (zs.take len).getD j 0=zs.getD j 0 by simp [List.getD_eq_getElem?_getD,List.getElem?_take,dE]];exact .int _ _
theorem dg_VR {w:World} {r:Reach} {b0:Nat} {v:Value} {d:DataW H} {p:List MemPlace} (hv:Value.okWide Tryz.prog w r b0 24 v) (h:DataW.Trod enc Tryz.prog w 0 (fun _=>true) true 24 v d p):
  ∃(s m:List Int) (L:Int),VR w (fun _=>False) ρ0 (fun _=>False) v (dgA s m L):=by
 obtain ⟨v0,v1,v2,y0,y1,y2,n,rfl,_,_,h0,h1,h2⟩:=open_agg3 Tryz.underlying24 (by kernel_rfl) (by kernel_rfl) hv h;obtain ⟨s,hs⟩:=Nd h0;obtain ⟨m,hm⟩:=Nd h1;obtain ⟨L,e,_⟩:=DataW.trod_int Tryz.underlying3 h2;simp only [List.cons.injEq,and_true] at e;subst e;refine ⟨s,m,L, .agg [v0,v1, .int .i64 L] [roI s,roI m,I L] rfl fun i u x hu hx=>?_⟩
 match i,hu,hx with
 |0,hu,hx=>simp at hu hx;subst hu hx;exact hs
 |1,hu,hx=>simp at hu hx;subst hu hx;exact hm
 |2,hu,hx=>simp at hu hx;subst hu hx;exact .int _ _
end
theorem own:ownKnob Tryz.prog.godebug=none:=by kernel_rfl
def yoo:List (String×DataW Unit):=[("math/bits.deBruijn32tab",Rows.laid_math_bits_deBruijn32tab),("math/bits.deBruijn64tab",Rows.laid_math_bits_deBruijn64tab),("internal/strconv.uint64pow10",Rows.laid_internal_strconv_uint64pow10)]
theorem L6:Tryz.prog.globalNamed "internal/strconv.uint64pow10" =some 0:=by kernel_rfl
theorem J8:(Tryz.prog.globals[0]?).map (·.type)=some 210:=by kernel_rfl
theorem ys0 {W:World} (h:laidMetH Tryz.prog yoo W):Good W:=by
 rw [MakeChecks.laidMetH_plain _ _ _ (by kernel_rfl)] at h;obtain ⟨ps,⟨g0,t0,cs0,f0,p0,q0,uD,tf,hv0,FA,⟨g1,t1,cs1,f1,p1,q1,tp,RR,hv1,zA,⟨g2,t2,cs2,f2,p2,q2,nP,KE,Fe,xC,_,_⟩,_⟩,_⟩,_,_⟩:=h;obtain rfl:=Option.some.inj (L6.symm.trans nP);obtain rfl:=Option.some.inj (J8.symm.trans KE);have e:(Rows.laid_internal_strconv_uint64pow10:DataW Unit)=Lib.tabData .u64 Lib.pow10Tab:=by rfl
 rw [e] at xC;unfold Good Lib.TabIs;rw [Fe,←Lib.cells_of_tab Tryz.underlying210 Tryz.underlying79 (by kernel_rfl) (by kernel_rfl) xC]
theorem y41 (os:Os) (args:Array Value):laidMetH Tryz.prog yoo ((World.doorLaid Tryz.prog 400 os).forCall (fun _ _=>0) ⟨#[],args,[]⟩).memory:=
 laidMetH_of_parts3 (fuel:=8) (laidMet_of_run' 8 (by kernel_rfl) (by kernel_rfl)) (by kernel_rfl) (by kernel_rfl)
section
variable {H:Type} {enc:TypeId×Value->H}
theorem S9 {w:World} {r:Reach} {b0 t:Nat} {v:Value} (hu: ∀fs,Tryz.prog.underlying t≠some (.struct fs)) (ha: ∀n e,Tryz.prog.underlying t≠some (.array n e)) (hv:Value.okWide Tryz.prog w r b0 t v):v.cells.toList=[v]:=by
 unfold Value.okWide at hv
 split at hv
 ·exact absurd ‹_› (hu _)
 ·exact absurd ‹_› (ha _ _)
 ·unfold Cell.okWide at hv;cases v<;>first|rfl|(exfalso;split at hv<;>simp_all [Cell.ok])
end
theorem u8_VR {H:Type} {enc:TypeId×Value->H} {w:World} {r:Reach} {b0:Nat} {v:Value} {d:DataW H} {p:List MemPlace} (hv:Value.okWide Tryz.prog w r b0 5 v) (h:DataW.Trod enc Tryz.prog w 0 (fun _=>true) true 5 v d p):
  ∃n:Int,(0<=n/\n<=255)/\VR w (fun _=>False) ρ0 (fun _=>False) v (.int .u8 n):=by
 obtain ⟨fuel,hf⟩:=h;rw [S9 (fun fs=>by rw [Tryz.underlying5];simp) (fun n e=>by rw [Tryz.underlying5];simp) hv] at hf;obtain ⟨n,hc,_,hw⟩:=DataW.trod_int Tryz.underlying5 hf;simp only [List.cons.injEq,and_true] at hc;subst hc;refine ⟨n,?_, .int _ _⟩;simp [Lit.wf,IntKind.has,IntKind.min,IntKind.max,IntKind.bits,IntKind.signed] at hw;omega
end Go.Proofs.YtphjphpmfflfpaaGreatDoor
namespace Go.Proofs.YtphjphpmfflfpaaGreatDoor
open Go Go.RowKit
set_option maxRecDepth 100000
theorem GW (h b:Int) (h0:0<=h) (h1:h<=100000):Fn Tryz.prog 152 [I h,I b] (I (fZ h b)):=UY h b h0 h1
theorem T0 (s m:List Int) (L:Int) (hs:s.length<=1000) (hm:iP m s.length):Fn Tryz.prog 118 [dgA s m L] (.bool (lr m s.length)):=by
 obtain ⟨p1,p2,p3,p4⟩:=Ii hm;have fB:=hm.1;refine Fn.intro [.tmp 2] Tryz.func118 rfl rfl (by decide) (by simp [Tryz.ntmps118]) ?_;rw [Tryz.ntmps118]
 repeat' (first|omega|(try apply aj);simp only [go_sem,sevalprocAttr]|apply ag<;>(intro h_;(try simp only [h_]);revert h_)|apply ah|apply ai|apply ae|apply And.intro|with_reducible intro h_|trivial|simp only [go_sem,ak];omega)
 refine ⟨az.fn rfl (V1 s m L hs hm) ?_⟩
 repeat' (first|omega|(try apply aj);simp only [go_sem,sevalprocAttr]|apply ag<;>(intro h_;(try simp only [h_]);revert h_)|apply ah|apply ai|apply ae|apply And.intro|with_reducible intro h_|trivial|simp only [go_sem,ak];omega)
 generalize um:(eH m s.length).1=part at*;generalize zn:(eH m s.length).2=np at*;refine bN.intro (fun n fr H=> ∃k:Nat,k<=part.length/\n=part.length-k/\fr=[(22,I k),(21,I part.length),(20,roI part),(5, .sl 1 1 0 np.toNat),(3,roI part),(1, .ptr 0 0)]/\H=[(1, .cells 3 (.ints (fE part np.toNat k))),(0, .cells 24 (.lst [roI s,roI m,I L]))]) ?_ ?_
 ·refine ⟨_,_,_,?_,0,by omega,rfl,rfl,rfl⟩;refine Wk.sub ?_ ?_<;>simp only [go_sem,sevalprocAttr];simp [fE]
 rintro n fr H ⟨k,hk,rfl,rfl,rfl⟩;obtain ⟨d1,d2⟩:=Ee part np.toNat k;by_cases bJ:k<part.length
 ·have q4:=p4 k (by omega);have d3:=d2 (part.getD k 0).toNat
  repeat' (first|omega|(try apply aj);simp only [go_sem,sevalprocAttr]|apply ag<;>(intro h_;(try simp only [h_]);revert h_)|apply ah|apply ai|apply ae|apply And.intro|with_reducible intro h_|trivial|simp only [go_sem,ak];omega)
  refine ⟨_,_,_,?_,?_,⟨k+1,by omega,rfl,rfl,rfl⟩⟩
  ·omega
  ·refine Wk.sub ?_ ?_<;>simp only [go_sem,sevalprocAttr];rfl
 obtain rfl:k=part.length:=by omega
 repeat' (first|omega|(try apply aj);simp only [go_sem,sevalprocAttr]|apply ag<;>(intro h_;(try simp only [h_]);revert h_)|apply ah|apply ai|apply ae|apply And.intro|with_reducible intro h_|trivial|simp only [go_sem,ak];omega)
 refine bN.intro (fun n fr H=> ∃h:Nat,h<=m.length/\n=m.length-h/\fr=[(40,I h),(39,I m.length),(8, .sl 1 2 0 m.length),(5, .sl 1 1 0 np.toNat),(3,roI part),(1, .ptr 0 0)]/\H=[(2, .cells 4 (.bools (bx m part np.toNat h).2)),(1, .cells 3 (.ints (bx m part np.toNat h).1)),(0, .cells 24 (.lst [roI s,roI m,I L]))]) ?_ ?_
 ·refine ⟨_,_,_,?_,0,by omega,rfl,rfl,rfl⟩;refine Wk.sub ?_ ?_<;>simp only [go_sem,sevalprocAttr]
  all_goals simp [bx]
 rintro n fr H ⟨h,hh,rfl,rfl,rfl⟩;obtain ⟨e1,e2,e3⟩:=yv m part np.toNat h;by_cases Ct:h<m.length
 ·have q4:=p4 (h/4) (by omega);have e4:=e3 (part.getD (h/4) 0).toNat;have e5:(h:Int).tdiv 4=(h/4:Nat):=by rw [sW (by omega)];omega
  have e6:((h:Int).toNat)=h:=by omega
  repeat' (first|omega|(try apply aj);simp only [go_sem,sevalprocAttr,e5]|apply ag<;>(intro h_;(try simp only [h_]);revert h_)|apply ah|apply ai|apply ae|apply And.intro|with_reducible intro h_|trivial|simp only [go_sem,ak];omega)
  ·have eS:bx m part np.toNat (h+1)=bx m part np.toNat h:=by
    simp only [bx,re];rw [if_pos (by assumption)]
   refine ⟨_,_,_,?_,?_,⟨h+1,by omega,rfl,rfl,rfl⟩⟩
   ·omega
   ·refine Wk.sub ?_ ?_<;>(rw [eS];simp only [go_sem,sevalprocAttr])
  ·have hf:(bx m part np.toNat h).2.getD h false=false:=by assumption
   have eS:bx m part np.toNat (h+1)=((bx m part np.toNat h).1.set (part.getD (h/4) 0).toNat ((bx m part np.toNat h).1.getD (part.getD (h/4) 0).toNat 0+1),mark m (m.length+1) (bx m part np.toNat h).2 h):=by
    simp only [bx,re];rw [if_neg (Rw hf)]
   have hu:=Jy (bx m part np.toNat h).2;generalize (bx m part np.toNat h).2=gF at*;generalize (bx m part np.toNat h).1.set (part.getD (h/4) 0).toNat ((bx m part np.toNat h).1.getD (part.getD (h/4) 0).toNat 0+1)=exc at*
   refine bN.intro (fun f fr H=> ∃(seen:List Bool) (g:Int),A6 seen<f/\seen.length=m.length/\0<=g/\g<4*s.length/\mark m f seen g=mark m (m.length+1) gF h/\
    fr=[(10,I g),(40,I h),(39,I m.length),(8, .sl 1 2 0 m.length),(5, .sl 1 1 0 np.toNat),(3,roI part),(1, .ptr 0 0)]/\H=[(2, .cells 4 (.bools seen)),(1, .cells 3 (.ints exc)),(0, .cells 24 (.lst [roI s,roI m,I L]))]) ?_ ?_
   ·refine ⟨m.length+1,_,_,?_,gF,h,by omega,e2,by omega,by omega,rfl,rfl,rfl⟩;refine Wk.sub ?_ ?_<;>simp only [go_sem,sevalprocAttr]
   rintro f fr H ⟨seen,g,Yr,Lq,uD,tp,zp,rfl,rfl⟩;obtain ⟨f',rfl⟩: ∃f',f=f'+1:=⟨f-1,by omega⟩;have ju:=hm.2 g.toNat (by omega)
   repeat' (first|omega|(try apply aj);simp only [go_sem,sevalprocAttr]|apply ag<;>(intro h_;(try simp only [h_]);revert h_)|apply ah|apply ai|apply ae|apply And.intro|with_reducible intro h_|trivial|simp only [go_sem,ak];omega)
   ·refine ⟨az.fn rfl (GW _ _ ju.1 (by omega)) ?_⟩
    repeat' (first|omega|(try apply aj);simp only [go_sem,sevalprocAttr]|apply ag<;>(intro h_;(try simp only [h_]);revert h_)|apply ah|apply ai|apply ae|apply And.intro|with_reducible intro h_|trivial|simp only [go_sem,ak];omega)
    have B2:seen.getD g.toNat false=false:=by assumption
    have hus:=U4 (l:=seen) (i:=g.toNat) (by omega) B2;have w4:=IA (b:= -1) ju.1 ju.2;refine ⟨f',_,_,?_,?_,⟨seen.set g.toNat true,fZ (m.getD g.toNat 0) (-1),by omega,by simp [Lq],w4.1,w4.2,?_,rfl,rfl⟩⟩
    ·omega
    ·refine Wk.sub ?_ ?_<;>simp only [go_sem,sevalprocAttr]
    ·rw [←zp];simp only [mark];rw [if_neg (Rw B2)]
   ·have B2:seen.getD g.toNat false=true:=by assumption
    have K5:seen=mark m (m.length+1) gF h:=by rw [←zp];simp only [mark];rw [if_pos B2]
    refine ⟨_,_,_,?_,?_,⟨h+1,by omega,rfl,rfl,rfl⟩⟩
    ·omega
    ·refine Wk.sub ?_ ?_<;>(rw [eS];simp only [go_sem,sevalprocAttr]);exact K5
 obtain rfl:h=m.length:=by omega
 repeat' (first|omega|(try apply aj);simp only [go_sem,sevalprocAttr]|apply ag<;>(intro h_;(try simp only [h_]);revert h_)|apply ah|apply ai|apply ae|apply And.intro|with_reducible intro h_|trivial|simp only [go_sem,ak];omega)
 refine bN.intro (fun n fr H=> ∃k:Nat,k<=np.toNat/\n=np.toNat-k/\(∀i,i<k->(bx m part np.toNat m.length).1.getD i 0=2)/\fr=[(75,I k),(74,I np.toNat),(73, .sl 1 1 0 np.toNat)]/\H=[(1, .cells 3 (.ints (bx m part np.toNat m.length).1))]) ?_ ?_
 ·refine ⟨_,_,_,?_,0,by omega,rfl,by omega,rfl,rfl⟩;refine Wk.sub ?_ ?_<;>simp only [go_sem,sevalprocAttr]
 rintro n fr H ⟨k,hk,rfl,b6,rfl,rfl⟩
 repeat' (first|omega|(try apply aj);simp only [go_sem,sevalprocAttr]|apply ag<;>(intro h_;(try simp only [h_]);revert h_)|apply ah|apply ai|apply ae|apply And.intro|with_reducible intro h_|trivial|simp only [go_sem,ak];omega)
 ·unfold lr;rw [um,zn];exact (Td (k:=k) (by rw [(yv m part np.toNat m.length).1];omega) (by assumption)).symm
 ·refine ⟨_,_,_,?_,?_,⟨k+1,by omega,rfl,fun i hi=>?_,rfl,rfl⟩⟩
  ·omega
  ·refine Wk.sub ?_ ?_<;>simp only [go_sem,sevalprocAttr]
  ·rcases Nat.lt_or_ge i k with g|g
   ·exact b6 i g
   ·rw [show i=k by omega];assumption
 ·unfold lr;rw [um,zn];exact (Xi (fun i hi=>b6 i (by rw [(yv m part np.toNat m.length).1] at hi;omega))).symm
end Go.Proofs.YtphjphpmfflfpaaGreatDoor
