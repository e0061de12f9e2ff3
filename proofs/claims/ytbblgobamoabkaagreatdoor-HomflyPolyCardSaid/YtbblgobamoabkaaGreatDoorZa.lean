/- Layer 1: contracts of the program's functions on diagrams. -/
import Derived.Test.YtbblgobamoabkaaGreatDoorTy
import Derived.Test.YtbblgobamoabkaaGreatDoorPl
import Derived.Test.YtbblgobamoabkaaGreatDoorRows
import Derived.ProofKit
import Derived.LaidMore
import Derived.OpenShut
import Derived.Stop.Joined
import Derived.ReadAgain
import Derived.Lib.SmallJoins
import Derived.ChangeSlices
import Derived.Test.YtbblgobamoabkaaGreatDoorTie
import Derived.Test.YtbblgobamoabkaaGreatDoorCards
import Derived.SevenTiedAt
set_option linter.unusedSimpArgs false
set_option linter.unusedVariables false
namespace Go.Proofs.YtbblgobamoabkaaGreatDoor
open Go Go.RowKit
set_option maxRecDepth 100000
abbrev roI (l:List Int):AV:= .ro 1 l.length (.ints l)
abbrev roB (l:List Bool):AV:= .ro 1 l.length (.bools l)
abbrev dgA (s m:List Int) (L:Int):AV:= .agg [roI s,roI m,I L]
attribute [go_sem] roI roB dgA
def roF (l:List Int):AV:= .ro 1 l.length (.ints l)
abbrev roLL (ls:List (List Int)):AV:= .ro 1 ls.length (.lst (ls.map roF))
theorem yw8 (H:Hp) (l:List Int):s3 H (roF l)=true:=rfl
theorem yep (H:Hp) (ls:List (List Int)):ls.all (s3 H∘roF)=true:=by simp [yw8]
theorem y3r (n:Nat):cutV n∘roF=roF:=by funext l;rfl
theorem y0w (H:Hp) (n:Nat):snap H (n+1)∘roF=roF:=by funext l;rfl
theorem yck (H:Hp) (n:Nat) (ls:List (List Int)): ∀x∈ls.map roF,yas H (n+1) x:=fun x hx=>by
 obtain ⟨l,_,rfl⟩:=List.mem_map.1 hx;trivial
theorem ylc (ls:List (List Int)) (i:Nat) (h:i<ls.length):(ls.map roF).getD i .any=roI (ls.getD i []):=by simp [h,roF]
attribute [go_sem] yw8 yep y3r y0w
theorem yde {a b:Int} (h:0<=a):a.tmod b=a % b:=Int.tmod_eq_emod_of_nonneg h
theorem ybe {a b:Int} (h:0<=a):a.tdiv b=a/b:=Int.tdiv_eq_ediv_of_nonneg h
theorem y3s (h b:Int) (h0:0<=h) (h1:h<=100000):Fn Tryz.prog 106 [I h,I b] (I (h-h % 4+(h % 4+b.tmod 4+4)% 4)):=by
 have e1:h.tmod 4=h % 4:=Int.tmod_eq_emod_of_nonneg h0
 have e2: -4<b.tmod 4/\b.tmod 4<4:=⟨Int.lt_tmod_of_pos b (by decide),Int.tmod_lt_of_pos b (by decide)⟩
 have e3:(h % 4+b.tmod 4+4).tmod 4=(h % 4+b.tmod 4+4)% 4:=Int.tmod_eq_emod_of_nonneg (by omega)
 refine Fn.intro [.tmp 4] Tryz.func106 rfl rfl (by decide) (by simp [Tryz.ntmps106]) ?_;rw [Tryz.ntmps106]
 repeat' (first|omega|(try apply yaa);simp only [go_sem,sevalprocAttr]|apply yab<;>(intro h_;(try simp only [h_]);revert h_)|apply And.intro|with_reducible intro h_|trivial|simp only [go_sem,la2];omega)
 all_goals try simp only [e1,e3]
 all_goals try omega
theorem yhh (s m:List Int) (L h:Int) (h0:0<=h) (h1:h<4*s.length) (hs:s.length<=1000):Fn Tryz.prog 65 [dgA s m L,I h] (.bool (outB s h)):=by
 have e1:h.tmod 4=h % 4:=Int.tmod_eq_emod_of_nonneg h0
 have e2:h.tdiv 4=h/4:=Int.tdiv_eq_ediv_of_nonneg h0
 refine Fn.intro [.tmp 4] Tryz.func65 rfl rfl (by decide) (by simp [Tryz.ntmps65]) ?_;rw [Tryz.ntmps65]
 repeat' (first|omega|(try apply yaa);simp only [go_sem,sevalprocAttr]|apply yab<;>(intro h_;(try simp only [h_]);revert h_)|apply And.intro|with_reducible intro h_|trivial|simp only [go_sem,la2];omega)
 all_goals try simp only [e1,e2] at*
 all_goals try omega
 all_goals simp_all [outB]
theorem y0x (s m:List Int) (L:Int) (hs:s.length<=1000) (hm:ybn m s.length):Fn Tryz.prog 105 [dgA s m L] (.tup [roI (yaw m s.length).1,I (yaw m s.length).2]):=by
 refine Fn.intro [.tmp 2, .tmp 3] Tryz.func105 rfl rfl (by decide) (by simp [Tryz.ntmps105]) ?_;rw [Tryz.ntmps105]
 repeat' (first|omega|(try apply yaa);simp only [go_sem,sevalprocAttr]|apply yab<;>(intro h_;(try simp only [h_]);revert h_)|apply And.intro|with_reducible intro h_|trivial|simp only [go_sem,la2];omega)
 refine yaj.intro (fun n fr H=> ∃k:Nat,k<=s.length/\n=s.length-k/\fr=[(18,I k),(17,I s.length),(4, .sl 1 1 0 s.length),(1, .ptr 0 0)]/\H=[(1, .cells 3 (.ints (List.replicate k (-1)++List.replicate (s.length-k) 0))),(0, .cells 24 (.lst [roI s,roI m,I L]))]) ?_ ?_
 ·refine ⟨_,_,_,?_,0,by omega,rfl,rfl,rfl⟩
  refine Wk.sub ?_ ?_<;>simp only [go_sem,sevalprocAttr]
  simp
 rintro n fr H ⟨k,hk,rfl,rfl,rfl⟩
 repeat' (first|omega|(try apply yaa);simp only [go_sem,sevalprocAttr]|apply yab<;>(intro h_;(try simp only [h_]);revert h_)|apply And.intro|with_reducible intro h_|trivial|simp only [go_sem,la2];omega)
 ·refine ⟨_,_,_,?_,?_,⟨k+1,by omega,rfl,rfl,rfl⟩⟩
  ·omega
  ·refine Wk.sub ?_ ?_<;>simp only [go_sem,sevalprocAttr]
   exact y0s _ _ _ _ (by omega)
 obtain rfl:k=s.length:=by omega
 refine yaj.intro (fun n fr H=> ∃k:Nat,k<=s.length/\n=s.length-k/\fr=[(27,I k),(26,I s.length),(6,I (lbN m s.length k).2),(4, .sl 1 1 0 s.length),(1, .ptr 0 0)]/\H=[(1, .cells 3 (.ints (lbN m s.length k).1)),(0, .cells 24 (.lst [roI s,roI m,I L]))]) ?_ ?_
 ·refine ⟨_,_,_,?_,0,by omega,rfl,rfl,rfl⟩
  refine Wk.sub ?_ ?_<;>simp only [go_sem,sevalprocAttr]
  ·simp [lbN]
  ·simp [lbN]
 rintro n fr H ⟨k,hk,rfl,rfl,rfl⟩
 obtain ⟨hp1,hp2,hp3⟩:=yjb hm k hk
 have hpl:=hp1.1
 repeat' (first|omega|(try apply yaa);simp only [go_sem,sevalprocAttr]|apply yab<;>(intro h_;(try simp only [h_]);revert h_)|apply And.intro|with_reducible intro h_|trivial|simp only [go_sem,la2];omega)
 ·refine ⟨_,_,_,?_,?_,⟨k+1,by omega,rfl,rfl,rfl⟩⟩
  ·omega
  ·have e:lbN m s.length (k+1)=lbN m s.length k:=by simp only [lbN,lbC];rw [if_pos (by assumption)]
   refine Wk.sub ?_ ?_<;>(simp only [go_sem,sevalprocAttr];rw [e])
 ·have hneg:(lbN m s.length k).1.getD k 0<0:=by assumption
  have hkn:k<s.length:=by omega
  have eN:lbN m s.length (k+1)=(bfs m (lbN m s.length k).2 (2*s.length+1) ((lbN m s.length k).1.set k (lbN m s.length k).2) [(k:Int)],(lbN m s.length k).2+1):=by simp only [lbN,lbC];rw [if_neg (by omega)]
  have hn0:=yk9 (i:=k) (by omega) hneg hp2
  have hnl:=ysg (lbN m s.length k).1
  have hp0:pOk s.length (lbN m s.length k).2 ((lbN m s.length k).1.set k (lbN m s.length k).2):=⟨by simp [hpl],fun i hi=>by
   by_cases e:k=i
   ·subst e;rw [yat (by omega)];omega
   ·rw [yao e];exact hp1.2 i hi⟩
  generalize (lbN m s.length k).1.set k (lbN m s.length k).2=part0 at*
  refine yaj.intro (fun f fr H=> ∃(part q cq:List Int) (off:Nat),2*negs part+q.length<=f/\f<=2*s.length+1/\pOk s.length (lbN m s.length k).2 part/\qOk s.length q/\off+q.length=cq.length/\cq.drop off=q/\bfs m (lbN m s.length k).2 f part q=bfs m (lbN m s.length k).2 (2*s.length+1) part0 [(k:Int)]/\
   fr=[(8, .sl 1 2 off q.length),(27,I k),(26,I s.length),(6,I (lbN m s.length k).2),(4, .sl 1 1 0 s.length),(1, .ptr 0 0)]/\H=[(2, .cells 3 (.ints cq)),(1, .cells 3 (.ints part)),(0, .cells 24 (.lst [roI s,roI m,I L]))]) ?_ ?_
  ·refine ⟨_,_,_,?_,part0,[(k:Int)],[(k:Int)],0,?_,Nat.le_refl _,hp0,fun x hx=>by simp at hx;omega,rfl,rfl,rfl,rfl,rfl⟩
   ·refine Wk.sub ?_ ?_<;>simp only [go_sem,sevalprocAttr]
   ·simp only [List.length_singleton];omega
  rintro f fr H ⟨part,q,cq,off,hf,hf2,hpp,hqq,hoc,hdr,hbf,rfl,rfl⟩
  have hppl:=hpp.1
  repeat' (first|omega|(try apply yaa);simp only [go_sem,sevalprocAttr]|apply yab<;>(intro h_;(try simp only [h_]);revert h_)|apply And.intro|with_reducible intro h_|trivial|simp only [go_sem,la2];omega)
  ·--the four neighbours
   have hq0:0<q.length:=by omega
   obtain ⟨c,q',rfl⟩: ∃c q',q=c::q':=by
    cases q with
    |nil=>simp at hq0
    |cons c q'=>exact ⟨c,q',rfl⟩
   have hcg:cq.getD off 0=c:=by
    have:=congrArg (fun l=>l.getD 0 0) hdr
    simpa using this
   have hdr':cq.drop (off+1)=q':=by
    have:=congrArg List.tail hdr
    simpa using this
   have hcr:=hqq c (by simp)
   have hqq':qOk s.length q':=fun x hx=>hqq x (by simp [hx])
   simp only [List.length_cons] at hf hoc
   rw [hcg]
   refine yaj.intro (fun j fr H=> ∃(i:Nat) (cq off':_),j=4-i/\i<=4/\off'+(lb4 m c (lbN m s.length k).2 (part,q') i).2.length=(cq:List Int).length/\cq.drop off'=(lb4 m c (lbN m s.length k).2 (part,q') i).2/\
    fr=[(49,I i),(8, .sl 1 2 off' (lb4 m c (lbN m s.length k).2 (part,q') i).2.length),(9,I c),(27,I k),(26,I s.length),(6,I (lbN m s.length k).2),(4, .sl 1 1 0 s.length),(1, .ptr 0 0)]/\H=[(2, .cells 3 (.ints cq)),(1, .cells 3 (.ints (lb4 m c (lbN m s.length k).2 (part,q') i).1)),(0, .cells 24 (.lst [roI s,roI m,I L]))]) ?_ ?_
   ·refine ⟨_,_,_,?_,0,cq,off+1,rfl,by omega,by simp only [lb4];omega,by simp only [lb4];exact hdr',rfl,rfl⟩
    refine Wk.sub ?_ ?_<;>simp only [go_sem,sevalprocAttr]
    ·simp [lb4]
    ·simp [lb4]
   rintro j fr H ⟨i,cq,off',rfl,hi,hol,hod,rfl,rfl⟩
   obtain ⟨g1,g2,g3,g5⟩:=yl9 hm hcr hp2 (st:=(part,q')) hpp hqq' i hi
   have g1l:=g1.1
   simp only at g3 g5
   by_cases hi4:i<4
   ·have hmr:=hm.2 (4*c+i).toNat (by omega)
    have hml:=hm.1
    have e2:(m.getD (4*c+i).toNat 0).tdiv 4=m.getD (4*c+i).toNat 0/4:=ybe hmr.1
    have hto:0<=m.getD (4*c+i).toNat 0/4/\m.getD (4*c+i).toNat 0/4<s.length:=by omega
    have eL:lb4 m c (lbN m s.length k).2 (part,q') (i+1)=lb1 m c (lbN m s.length k).2 i (lb4 m c (lbN m s.length k).2 (part,q') i):=rfl
    repeat' (first|omega|(try apply yaa);simp only [go_sem,sevalprocAttr,e2]|apply yab<;>(intro h_;(try simp only [h_]);revert h_)|apply And.intro|with_reducible intro h_|trivial|simp only [go_sem,la2];omega)
    ·have hng:(lb4 m c (lbN m s.length k).2 (part,q') i).1.getD (m.getD (4*c+i).toNat 0/4).toNat 0<0:=by assumption
     have eB:lb4 m c (lbN m s.length k).2 (part,q') (i+1)=((lb4 m c (lbN m s.length k).2 (part,q') i).1.set (m.getD (4*c+i).toNat 0/4).toNat (lbN m s.length k).2,(lb4 m c (lbN m s.length k).2 (part,q') i).2++[m.getD (4*c+i).toNat 0/4]):=by
      rw [eL];unfold lb1;simp only;rw [if_pos hng]
     refine ⟨_,_,_,?_,?_,⟨i+1,cq.drop off'++[m.getD (4*c+i).toNat 0/4],0,rfl,by omega,?_,?_,rfl,rfl⟩⟩
     ·omega
     ·refine Wk.sub ?_ ?_<;>(rw [eB];simp only [go_sem,sevalprocAttr])
     ·rw [eB,hod];simp
     ·rw [eB,hod];simp
    ·have hng:0<=(lb4 m c (lbN m s.length k).2 (part,q') i).1.getD (m.getD (4*c+i).toNat 0/4).toNat 0:=by assumption
     have eB:lb4 m c (lbN m s.length k).2 (part,q') (i+1)=lb4 m c (lbN m s.length k).2 (part,q') i:=by
      rw [eL];unfold lb1;simp only;rw [if_neg (by omega)]
     refine ⟨_,_,_,?_,?_,⟨i+1,cq,off',rfl,by omega,?_,?_,rfl,rfl⟩⟩
     ·omega
     ·refine Wk.sub ?_ ?_<;>(rw [eB];simp only [go_sem,sevalprocAttr])
     ·rw [eB];exact hol
     ·rw [eB];exact hod
   ·obtain rfl:i=4:=by omega
    repeat' (first|omega|(try apply yaa);simp only [go_sem,sevalprocAttr]|apply yab<;>(intro h_;(try simp only [h_]);revert h_)|apply And.intro|with_reducible intro h_|trivial|simp only [go_sem,la2];omega)
    obtain ⟨f',rfl⟩: ∃f',f=f'+1:=⟨f-1,by omega⟩
    refine ⟨f',_,_,?_,?_,⟨(lb4 m c (lbN m s.length k).2 (part,q') 4).1,(lb4 m c (lbN m s.length k).2 (part,q') 4).2,cq,off',?_,?_,g1,g2,hol,hod,?_,rfl,rfl⟩⟩
    ·omega
    ·refine Wk.sub ?_ ?_<;>simp only [go_sem,sevalprocAttr]
    ·omega
    ·omega
    ·rw [←hbf];rfl
  ·obtain rfl:q=[]:=List.eq_nil_of_length_eq_zero (by omega)
   have eP:bfs m (lbN m s.length k).2 f part []=part:=by unfold bfs;rfl
   rw [eP] at hbf
   refine ⟨_,_,_,?_,?_,⟨k+1,by omega,rfl,rfl,rfl⟩⟩
   ·omega
   ·refine Wk.sub ?_ ?_<;>(rw [eN];simp only [go_sem,sevalprocAttr])
    exact hbf
 ·obtain rfl:k=s.length:=by omega
  exact hpl.symm
 ·obtain rfl:k=s.length:=by omega
  exact List.take_of_length_le (by omega)
 ·obtain rfl:k=s.length:=by omega
  rfl
end Go.Proofs.YtbblgobamoabkaaGreatDoor
set_option linter.unusedSimpArgs false
set_option linter.unusedVariables false
namespace Go.Proofs.YtbblgobamoabkaaGreatDoor
set_option maxRecDepth 100000
open Go Go.Joins Go.ChangeShapes Go.WideShapes Go.ChangeAt Go.WideMaps Go.WideElems Go.RowKit
theorem kids:Kids Tryz.prog (· <Tryz.prog.types.size):=kids_rows (by kernel_rfl) (by kernel_rfl)
theorem full: ∀t e,t<Tryz.prog.types.size->Tryz.prog.underlying t=some (.slice e)->0<Tryz.prog.cellsOf e:=slices_full_of Tryz.prog (by kernel_rfl)
section
variable {H:Type} {enc:TypeId×Value->H}
theorem yi1 {P:Program} {W W':World} {base:Nat} {sp:Nat->Bool} {held:Bool}: ∀{ts:List TypeId} {vs:List Value} {ds:List (DataW H)} {ps:List MemPlace},DataW.TrodAll enc P W base sp held ts vs ds ps->(∀p∈ps,W.sameAt W' p)->DataW.TrodAll enc P W' base sp held ts vs ds ps
 |[],[],[],_,h,_=>h
 |_::_,_::_,_::_,_,⟨p,q,⟨n,h1⟩,h2,e⟩,hs=>⟨p,q,⟨n,DataW.trod_carry n _ _ _ h1 (fun x hx=>hs x (by rw [e];exact List.mem_append_left _ hx))⟩,yi1 h2 (fun x hx=>hs x (by rw [e];exact List.mem_append_right _ hx)),e⟩
theorem y0y {f:Func} {s:ChangeSpec} {apart fresh handsOn again:Bool} {W W':World} {args:Array Value} {ds gs:List (DataW H)} {before:List MemPlace}
  (hW:DataW.Whole enc Tryz.prog f.params.toList s.vars apart W args.toList ds gs before) (hv:s.vars=[]) (hT: ∀t∈f.params.toList,t<Tryz.prog.types.size)
  (hr:f.resultTypes= #[4]) (hs:s.fn H (ds++gs)={results:=[.lit (.bool true)],args:=ds}) (hb:Below W.heap.size W W'):
  s.post enc Tryz.prog f apart fresh handsOn again W args (.bool true) W':=by
 have hold: ∀p∈before,(fun b=>decide (b<W.heap.size)) p.block=true:=fun p hp=>by simpa using hW.lt p hp
 have hlt: ∀p∈before,p.block<W.heap.size:=fun p hp=>hW.lt p hp
 obtain ⟨p,q,hA,hV,hpq,hz,hn⟩:=hW
 have hWw:DataW.Whole enc Tryz.prog f.params.toList s.vars apart W args.toList ds gs before:=⟨p,q,hA,hV,hpq,hz,hn⟩
 rw [hv] at hV
 obtain ⟨rfl,rfl⟩:=trodVars_none hV
 rw [List.append_nil] at hpq
 subst hpq
 have hargs: ∀sp:Nat->Bool,(∀x∈before,sp x.block=true)->DataW.TrodAll enc Tryz.prog W' 0 sp true f.params.toList args.toList ds before:=fun sp hsp=>
  yi1 (DataW.TrodAll.respare kids full hT hA hsp) fun x hx=>hb.same (hlt x hx)
 have hres: ∀(b:Nat) (sp:Nat->Bool) (hd:Bool),DataW.TrodAll enc Tryz.prog W' b sp hd f.resultTypes.toList ((Value.bool true).resultList f.resultTypes.size) [.lit (.bool true)] []:=fun b sp hd=>by
  rw [hr]
  exact trodAll_mk1 (shut_bool Tryz.underlying4 _)
 refine ⟨ds,[],before,[],before,[],hWw,?_,?_,?_,hb.frame _,fun _=>?_⟩
 ·rw [hs];exact hres _ _ _
 ·rw [hs];exact hargs _ hold
 ·rw [hv,hs];rfl
 ·refine ⟨?_,[.lit (.bool true)]++ds,[],[]++before,⟨[]++before,[],trodAll_append (hargs _ (fun _ _=>rfl)) (hres _ _ _),?_,by simp,?_,?_⟩,?_⟩
  ·exact ok_one hr (by rfl) (okWide_bool_mk Tryz.underlying4 _)
  ·rw [hv];rfl
  ·intro b off hp
   have hp':MemPlace.cell b off∈before:=by simpa using hp
   rw [hb.frozen (hlt _ hp')]
   exact hz b off hp'
  ·intro ha
   have:=hn ha
   simpa using this
  ·intro p hp _
   simpa using hp
theorem ysq {w:World} {fuel:Nat} {v:Value} {x:DataW H×List MemPlace} (h:DataW.trod enc Tryz.prog w 0 (fun _=>true) true fuel 22 [v]=some x): ∃s:List Int,VR w (fun _=>False) ρ0 (fun _=>False) v (roI s):=by
 rcases open_ints Tryz.underlying22 Tryz.underlying3 (by kernel_rfl) h with ⟨hc,_⟩|⟨a,len,cap,zs,hc,_,hl,_,hz,_,hcell,_⟩
 ·simp only [List.cons.injEq,and_true] at hc
  subst hc
  exact ⟨[], .ro 1 0 (.ints []) none 0 (fun _=>undef) rfl (Nat.le_refl _) (by decide) (fun h=>absurd h (by decide)) (fun j hj=>by simp [Cs.len] at hj)⟩
 ·simp only [List.cons.injEq,and_true] at hc
  subst hc
  simp only [if_true] at hz
  refine ⟨zs.take len,?_⟩
  have e:(zs.take len).length=len:=by rw [List.length_take];omega
  unfold roI
  rw [e]
  refine .ro 1 len (.ints (zs.take len)) (some a) cap (fun j=> .int .i64 (zs.getD j 0)) (by simp [Cs.len];omega) hl (by decide) (fun h0=>⟨a,rfl,?_,fun h=>h,fun j hj=>?_⟩) fun j hj=>?_
  ·have h1:=hcell 0 (by omega)
   unfold World.cell? at h1
   rw [show (a.add 0)=a from rfl] at h1
   split at h1
   ·rename_i hb;exact (Array.getElem?_eq_some_iff.1 hb).1
   ·cases h1
  ·exact hcell j (by simp [Cs.len] at hj;omega)
  ·have hj':j<len:=by simp [Cs.len] at hj;omega
   simp only [Cs.get]
   rw [show (zs.take len).getD j 0=zs.getD j 0 by simp [List.getD_eq_getElem?_getD,List.getElem?_take,hj']]
   exact .int _ _
theorem y6c {w:World} {r:Reach} {b0:Nat} {v:Value} {d:DataW H} {p:List MemPlace} (hv:Value.okWide Tryz.prog w r b0 24 v) (h:DataW.Trod enc Tryz.prog w 0 (fun _=>true) true 24 v d p):
  ∃(s m:List Int) (L:Int),VR w (fun _=>False) ρ0 (fun _=>False) v (dgA s m L):=by
 obtain ⟨v0,v1,v2,y0,y1,y2,n,rfl,_,_,h0,h1,h2⟩:=open_agg3 Tryz.underlying24 (by kernel_rfl) (by kernel_rfl) hv h
 obtain ⟨s,hs⟩:=ysq h0
 obtain ⟨m,hm⟩:=ysq h1
 obtain ⟨L,e,_⟩:=DataW.trod_int Tryz.underlying3 h2
 simp only [List.cons.injEq,and_true] at e
 subst e
 refine ⟨s,m,L, .agg [v0,v1, .int .i64 L] [roI s,roI m,I L] rfl fun i u x hu hx=>?_⟩
 match i,hu,hx with
 |0,hu,hx=>simp at hu hx;subst hu hx;exact hs
 |1,hu,hx=>simp at hu hx;subst hu hx;exact hm
 |2,hu,hx=>simp at hu hx;subst hu hx;exact .int _ _
end
end Go.Proofs.YtbblgobamoabkaaGreatDoor
set_option linter.unusedSimpArgs false
set_option linter.unusedVariables false
namespace Go.Proofs.YtbblgobamoabkaaGreatDoor
set_option maxRecDepth 100000
open Go Go.Joins Go.ChangeShapes Go.WideShapes Go.ChangeAt Go.WideMaps Go.WideElems Go.RowKit
theorem own:ownKnob Tryz.prog.godebug=none:=by kernel_rfl
def ymf:List (String×DataW Unit):=[("math/bits.deBruijn32tab",Rows.laid_math_bits_deBruijn32tab),("math/bits.deBruijn64tab",Rows.laid_math_bits_deBruijn64tab),("internal/strconv.uint64pow10",Rows.laid_internal_strconv_uint64pow10)]
theorem gPow:Tryz.prog.globalNamed "internal/strconv.uint64pow10" =some 2:=by kernel_rfl
theorem tPow:(Tryz.prog.globals[2]?).map (·.type)=some 187:=by kernel_rfl
theorem ypx {W:World} (h:laidMetH Tryz.prog ymf W):Good W:=by
 rw [MakeChecks.laidMetH_plain _ _ _ (by kernel_rfl)] at h
 obtain ⟨ps,⟨g0,t0,cs0,f0,p0,q0,hg0,ht0,hv0,hd0,⟨g1,t1,cs1,f1,p1,q1,hg1,ht1,hv1,hd1,⟨g2,t2,cs2,f2,p2,q2,hg2,ht2,hv2,hd2,_,_⟩,_⟩,_⟩,_,_⟩:=h
 obtain rfl:=Option.some.inj (gPow.symm.trans hg2)
 obtain rfl:=Option.some.inj (tPow.symm.trans ht2)
 have e:(Rows.laid_internal_strconv_uint64pow10:DataW Unit)=Lib.tabData .u64 Lib.pow10Tab:=by rfl
 rw [e] at hd2
 unfold Good Lib.TabIs
 rw [hv2,←Lib.cells_of_tab Tryz.underlying187 Tryz.underlying129 (by kernel_rfl) (by kernel_rfl) hd2]
theorem y0z (os:Os) (args:Array Value):laidMetH Tryz.prog ymf ((World.doorLaid Tryz.prog 400 os).forCall (fun _ _=>0) ⟨#[],args,[]⟩).memory:=
 laidMetH_of_parts3 (fuel:=8) (laidMet_of_run' 8 (by kernel_rfl) (by kernel_rfl)) (by kernel_rfl) (by kernel_rfl)
end Go.Proofs.YtbblgobamoabkaaGreatDoor
