/- Layer 1: contracts of the program's functions on diagrams. -/
import Derived.Test.YtmdjdekgakidhaaGreatDoorTy
import Derived.Test.YtmdjdekgakidhaaGreatDoorPl
import Derived.Test.YtmdjdekgakidhaaGreatDoorRows
import Derived.ProofKit
import Derived.LaidMore
import Derived.OpenShut
import Derived.Stop.Joined
import Derived.ReadAgain
import Derived.Lib.SmallJoins
import Derived.ChangeSlices
import Derived.Test.YtmdjdekgakidhaaGreatDoorTie
import Derived.Test.YtmdjdekgakidhaaGreatDoorCards
import Derived.SevenTiedAt
import Derived.Deep.Grids
import Derived.Test.YtmdjdekgakidhaaGreatDoorGc
import Derived.Laws.IdiomRangeMap
set_option linter.unusedSimpArgs false
set_option linter.unusedVariables false
namespace Go.Proofs.YtmdjdekgakidhaaGreatDoor
open Go Go.RowKit
set_option maxRecDepth 100000
abbrev roI (l:List Int):AV:= .ro 1 l.length (.ints l)
abbrev roB (l:List Bool):AV:= .ro 1 l.length (.bools l)
abbrev dgA (s m:List Int) (L:Int):AV:= .agg [roI s,roI m,I L]
attribute [go_sem] roI roB dgA
def roF (l:List Int):AV:= .ro 1 l.length (.ints l)
theorem yz0 (H:Hp) (l:List Int):s3 H (roF l)=true:=rfl
theorem yxq (H:Hp) (ls:List (List Int)):ls.all (s3 H∘roF)=true:=by simp [yz0]
theorem y7l (n:Nat):cutV n∘roF=roF:=by funext l;rfl
theorem y3s (H:Hp) (n:Nat):snap H (n+1)∘roF=roF:=by funext l;rfl
attribute [go_sem] yz0 yxq y7l y3s
theorem yvd {a b:Int} (h:0<=a):a.tmod b=a % b:=Int.tmod_eq_emod_of_nonneg h
theorem ykw {a b:Int} (h:0<=a):a.tdiv b=a/b:=Int.tdiv_eq_ediv_of_nonneg h
theorem y7m (h b:Int) (h0:0<=h) (h1:h<=100000):Fn Tryz.prog 116 [I h,I b] (I (h-h % 4+(h % 4+b.tmod 4+4)% 4)):=by
 have e1:h.tmod 4=h % 4:=Int.tmod_eq_emod_of_nonneg h0
 have e2: -4<b.tmod 4/\b.tmod 4<4:=⟨Int.lt_tmod_of_pos b (by decide),Int.tmod_lt_of_pos b (by decide)⟩
 have e3:(h % 4+b.tmod 4+4).tmod 4=(h % 4+b.tmod 4+4)% 4:=Int.tmod_eq_emod_of_nonneg (by omega)
 refine Fn.intro [.tmp 4] Tryz.func116 rfl rfl (by decide) (by simp [Tryz.ntmps116]) ?_;rw [Tryz.ntmps116]
 repeat' (first|omega|(try apply yaa);simp only [go_sem,sevalprocAttr]|apply yad<;>(intro h_;(try simp only [h_]);revert h_)|apply yac|apply yab|apply gspI|apply And.intro|with_reducible intro h_|trivial|simp only [go_sem,la2];omega)
 all_goals try simp only [e1,e3]
 all_goals try omega
theorem yl0 (s m:List Int) (L h:Int) (h0:0<=h) (h1:h<4*s.length) (hs:s.length<=1000):Fn Tryz.prog 75 [dgA s m L,I h] (.bool (outB s h)):=by
 have e1:h.tmod 4=h % 4:=Int.tmod_eq_emod_of_nonneg h0
 have e2:h.tdiv 4=h/4:=Int.tdiv_eq_ediv_of_nonneg h0
 refine Fn.intro [.tmp 4] Tryz.func75 rfl rfl (by decide) (by simp [Tryz.ntmps75]) ?_;rw [Tryz.ntmps75]
 repeat' (first|omega|(try apply yaa);simp only [go_sem,sevalprocAttr]|apply yad<;>(intro h_;(try simp only [h_]);revert h_)|apply yac|apply yab|apply gspI|apply And.intro|with_reducible intro h_|trivial|simp only [go_sem,la2];omega)
 all_goals try simp only [e1,e2] at*
 all_goals try omega
 all_goals simp_all [outB]
theorem y3t (s m:List Int) (L:Int) (hs:s.length<=1000) (hm:ybb m s.length):Fn Tryz.prog 115 [dgA s m L] (.tup [roI (yat m s.length).1,I (yat m s.length).2]):=by
 refine Fn.intro [.tmp 2, .tmp 3] Tryz.func115 rfl rfl (by decide) (by simp [Tryz.ntmps115]) ?_;rw [Tryz.ntmps115]
 repeat' (first|omega|(try apply yaa);simp only [go_sem,sevalprocAttr]|apply yad<;>(intro h_;(try simp only [h_]);revert h_)|apply yac|apply yab|apply gspI|apply And.intro|with_reducible intro h_|trivial|simp only [go_sem,la2];omega)
 refine yai.intro (fun n fr H=> ∃k:Nat,k<=s.length/\n=s.length-k/\fr=[(18,I k),(17,I s.length),(4, .sl 1 1 0 s.length),(1, .ptr 0 0)]/\H=[(1, .cells 3 (.ints (List.replicate k (-1)++List.replicate (s.length-k) 0))),(0, .cells 24 (.lst [roI s,roI m,I L]))]) ?_ ?_
 ·refine ⟨_,_,_,?_,0,by omega,rfl,rfl,rfl⟩
  refine Wk.sub ?_ ?_<;>simp only [go_sem,sevalprocAttr]
  simp
 rintro n fr H ⟨k,hk,rfl,rfl,rfl⟩
 repeat' (first|omega|(try apply yaa);simp only [go_sem,sevalprocAttr]|apply yad<;>(intro h_;(try simp only [h_]);revert h_)|apply yac|apply yab|apply gspI|apply And.intro|with_reducible intro h_|trivial|simp only [go_sem,la2];omega)
 ·refine ⟨_,_,_,?_,?_,⟨k+1,by omega,rfl,rfl,rfl⟩⟩
  ·omega
  ·refine Wk.sub ?_ ?_<;>simp only [go_sem,sevalprocAttr]
   exact y3o _ _ _ _ (by omega)
 obtain rfl:k=s.length:=by omega
 refine yai.intro (fun n fr H=> ∃k:Nat,k<=s.length/\n=s.length-k/\fr=[(27,I k),(26,I s.length),(6,I (lbN m s.length k).2),(4, .sl 1 1 0 s.length),(1, .ptr 0 0)]/\H=[(1, .cells 3 (.ints (lbN m s.length k).1)),(0, .cells 24 (.lst [roI s,roI m,I L]))]) ?_ ?_
 ·refine ⟨_,_,_,?_,0,by omega,rfl,rfl,rfl⟩
  refine Wk.sub ?_ ?_<;>simp only [go_sem,sevalprocAttr]
  ·simp [lbN]
  ·simp [lbN]
 rintro n fr H ⟨k,hk,rfl,rfl,rfl⟩
 obtain ⟨hp1,hp2,hp3⟩:=yj0 hm k hk
 have hpl:=hp1.1
 repeat' (first|omega|(try apply yaa);simp only [go_sem,sevalprocAttr]|apply yad<;>(intro h_;(try simp only [h_]);revert h_)|apply yac|apply yab|apply gspI|apply And.intro|with_reducible intro h_|trivial|simp only [go_sem,la2];omega)
 ·refine ⟨_,_,_,?_,?_,⟨k+1,by omega,rfl,rfl,rfl⟩⟩
  ·omega
  ·have e:lbN m s.length (k+1)=lbN m s.length k:=by simp only [lbN,lbC];rw [if_pos (by assumption)]
   refine Wk.sub ?_ ?_<;>(simp only [go_sem,sevalprocAttr];rw [e])
 ·have hneg:(lbN m s.length k).1.getD k 0<0:=by assumption
  have hkn:k<s.length:=by omega
  have eN:lbN m s.length (k+1)=(bfs m (lbN m s.length k).2 (2*s.length+1) ((lbN m s.length k).1.set k (lbN m s.length k).2) [(k:Int)],(lbN m s.length k).2+1):=by simp only [lbN,lbC];rw [if_neg (by omega)]
  have hn0:=yme (i:=k) (by omega) hneg hp2
  have hnl:=yu7 (lbN m s.length k).1
  have hp0:pOk s.length (lbN m s.length k).2 ((lbN m s.length k).1.set k (lbN m s.length k).2):=⟨by simp [hpl],fun i hi=>by
   by_cases e:k=i
   ·subst e;rw [yaz (by omega)];omega
   ·rw [yar e];exact hp1.2 i hi⟩
  generalize (lbN m s.length k).1.set k (lbN m s.length k).2=part0 at*
  refine yai.intro (fun f fr H=> ∃(part q cq:List Int) (off:Nat),2*negs part+q.length<=f/\f<=2*s.length+1/\pOk s.length (lbN m s.length k).2 part/\qOk s.length q/\off+q.length=cq.length/\cq.drop off=q/\bfs m (lbN m s.length k).2 f part q=bfs m (lbN m s.length k).2 (2*s.length+1) part0 [(k:Int)]/\
   fr=[(8, .sl 1 2 off q.length),(27,I k),(26,I s.length),(6,I (lbN m s.length k).2),(4, .sl 1 1 0 s.length),(1, .ptr 0 0)]/\H=[(2, .cells 3 (.ints cq)),(1, .cells 3 (.ints part)),(0, .cells 24 (.lst [roI s,roI m,I L]))]) ?_ ?_
  ·refine ⟨_,_,_,?_,part0,[(k:Int)],[(k:Int)],0,?_,Nat.le_refl _,hp0,fun x hx=>by simp at hx;omega,rfl,rfl,rfl,rfl,rfl⟩
   ·refine Wk.sub ?_ ?_<;>simp only [go_sem,sevalprocAttr]
   ·simp only [List.length_singleton];omega
  rintro f fr H ⟨part,q,cq,off,hf,hf2,hpp,hqq,hoc,hdr,hbf,rfl,rfl⟩
  have hppl:=hpp.1
  repeat' (first|omega|(try apply yaa);simp only [go_sem,sevalprocAttr]|apply yad<;>(intro h_;(try simp only [h_]);revert h_)|apply yac|apply yab|apply gspI|apply And.intro|with_reducible intro h_|trivial|simp only [go_sem,la2];omega)
  ·--the four neighbours
   have hq0:0<q.length:=by omega
   obtain ⟨c,q',rfl⟩: ∃c q',q=c::q':=by
    cases q with
    |nil=>simp at hq0
    |cons c q'=>exact ⟨c,q',rfl⟩
   have hcg:cq.getD off 0=c:=by
    have:=congrArg (fun l=>l.getD 0 0) hdr
    simpa using this
   have hdr':cq.drop (off+1)=q':=by
    have:=congrArg List.tail hdr
    simpa using this
   have hcr:=hqq c (by simp)
   have hqq':qOk s.length q':=fun x hx=>hqq x (by simp [hx])
   simp only [List.length_cons] at hf hoc
   rw [hcg]
   refine yai.intro (fun j fr H=> ∃(i:Nat) (cq off':_),j=4-i/\i<=4/\off'+(lb4 m c (lbN m s.length k).2 (part,q') i).2.length=(cq:List Int).length/\cq.drop off'=(lb4 m c (lbN m s.length k).2 (part,q') i).2/\
    fr=[(49,I i),(8, .sl 1 2 off' (lb4 m c (lbN m s.length k).2 (part,q') i).2.length),(9,I c),(27,I k),(26,I s.length),(6,I (lbN m s.length k).2),(4, .sl 1 1 0 s.length),(1, .ptr 0 0)]/\H=[(2, .cells 3 (.ints cq)),(1, .cells 3 (.ints (lb4 m c (lbN m s.length k).2 (part,q') i).1)),(0, .cells 24 (.lst [roI s,roI m,I L]))]) ?_ ?_
   ·refine ⟨_,_,_,?_,0,cq,off+1,rfl,by omega,by simp only [lb4];omega,by simp only [lb4];exact hdr',rfl,rfl⟩
    refine Wk.sub ?_ ?_<;>simp only [go_sem,sevalprocAttr]
    ·simp [lb4]
    ·simp [lb4]
   rintro j fr H ⟨i,cq,off',rfl,hi,hol,hod,rfl,rfl⟩
   obtain ⟨g1,g2,g3,g5⟩:=ynv hm hcr hp2 (st:=(part,q')) hpp hqq' i hi
   have g1l:=g1.1
   simp only at g3 g5
   by_cases hi4:i<4
   ·have hmr:=hm.2 (4*c+i).toNat (by omega)
    have hml:=hm.1
    have e2:(m.getD (4*c+i).toNat 0).tdiv 4=m.getD (4*c+i).toNat 0/4:=ykw hmr.1
    have hto:0<=m.getD (4*c+i).toNat 0/4/\m.getD (4*c+i).toNat 0/4<s.length:=by omega
    have eL:lb4 m c (lbN m s.length k).2 (part,q') (i+1)=lb1 m c (lbN m s.length k).2 i (lb4 m c (lbN m s.length k).2 (part,q') i):=rfl
    repeat' (first|omega|(try apply yaa);simp only [go_sem,sevalprocAttr,e2]|apply yad<;>(intro h_;(try simp only [h_]);revert h_)|apply yac|apply yab|apply gspI|apply And.intro|with_reducible intro h_|trivial|simp only [go_sem,la2];omega)
    ·have hng:(lb4 m c (lbN m s.length k).2 (part,q') i).1.getD (m.getD (4*c+i).toNat 0/4).toNat 0<0:=by assumption
     have eB:lb4 m c (lbN m s.length k).2 (part,q') (i+1)=((lb4 m c (lbN m s.length k).2 (part,q') i).1.set (m.getD (4*c+i).toNat 0/4).toNat (lbN m s.length k).2,(lb4 m c (lbN m s.length k).2 (part,q') i).2++[m.getD (4*c+i).toNat 0/4]):=by
      rw [eL];unfold lb1;simp only;rw [if_pos hng]
     refine ⟨_,_,_,?_,?_,⟨i+1,cq.drop off'++[m.getD (4*c+i).toNat 0/4],0,rfl,by omega,?_,?_,rfl,rfl⟩⟩
     ·omega
     ·refine Wk.sub ?_ ?_<;>(rw [eB];simp only [go_sem,sevalprocAttr])
     ·rw [eB,hod];simp
     ·rw [eB,hod];simp
    ·have hng:0<=(lb4 m c (lbN m s.length k).2 (part,q') i).1.getD (m.getD (4*c+i).toNat 0/4).toNat 0:=by assumption
     have eB:lb4 m c (lbN m s.length k).2 (part,q') (i+1)=lb4 m c (lbN m s.length k).2 (part,q') i:=by
      rw [eL];unfold lb1;simp only;rw [if_neg (by omega)]
     refine ⟨_,_,_,?_,?_,⟨i+1,cq,off',rfl,by omega,?_,?_,rfl,rfl⟩⟩
     ·omega
     ·refine Wk.sub ?_ ?_<;>(rw [eB];simp only [go_sem,sevalprocAttr])
     ·rw [eB];exact hol
     ·rw [eB];exact hod
   ·obtain rfl:i=4:=by omega
    repeat' (first|omega|(try apply yaa);simp only [go_sem,sevalprocAttr]|apply yad<;>(intro h_;(try simp only [h_]);revert h_)|apply yac|apply yab|apply gspI|apply And.intro|with_reducible intro h_|trivial|simp only [go_sem,la2];omega)
    obtain ⟨f',rfl⟩: ∃f',f=f'+1:=⟨f-1,by omega⟩
    refine ⟨f',_,_,?_,?_,⟨(lb4 m c (lbN m s.length k).2 (part,q') 4).1,(lb4 m c (lbN m s.length k).2 (part,q') 4).2,cq,off',?_,?_,g1,g2,hol,hod,?_,rfl,rfl⟩⟩
    ·omega
    ·refine Wk.sub ?_ ?_<;>simp only [go_sem,sevalprocAttr]
    ·omega
    ·omega
    ·rw [←hbf];rfl
  ·obtain rfl:q=[]:=List.eq_nil_of_length_eq_zero (by omega)
   have eP:bfs m (lbN m s.length k).2 f part []=part:=by unfold bfs;rfl
   rw [eP] at hbf
   refine ⟨_,_,_,?_,?_,⟨k+1,by omega,rfl,rfl,rfl⟩⟩
   ·omega
   ·refine Wk.sub ?_ ?_<;>(rw [eN];simp only [go_sem,sevalprocAttr])
    exact hbf
 ·obtain rfl:k=s.length:=by omega
  exact hpl.symm
 ·obtain rfl:k=s.length:=by omega
  exact List.take_of_length_le (by omega)
 ·obtain rfl:k=s.length:=by omega
  rfl
end Go.Proofs.YtmdjdekgakidhaaGreatDoor
set_option linter.unusedSimpArgs false
set_option linter.unusedVariables false
namespace Go.Proofs.YtmdjdekgakidhaaGreatDoor
set_option maxRecDepth 100000
open Go Go.Joins Go.ChangeShapes Go.WideShapes Go.ChangeAt Go.WideMaps Go.WideElems Go.RowKit
theorem kids:Kids Tryz.prog (· <Tryz.prog.types.size):=kids_rows (by kernel_rfl) (by kernel_rfl)
theorem full: ∀t e,t<Tryz.prog.types.size->Tryz.prog.underlying t=some (.slice e)->0<Tryz.prog.cellsOf e:=slices_full_of Tryz.prog (by kernel_rfl)
section
variable {H:Type} {enc:TypeId×Value->H}
theorem yjq {P:Program} {W W':World} {base:Nat} {sp:Nat->Bool} {held:Bool}: ∀{ts:List TypeId} {vs:List Value} {ds:List (DataW H)} {ps:List MemPlace},DataW.TrodAll enc P W base sp held ts vs ds ps->(∀p∈ps,W.sameAt W' p)->DataW.TrodAll enc P W' base sp held ts vs ds ps
 |[],[],[],_,h,_=>h
 |_::_,_::_,_::_,_,⟨p,q,⟨n,h1⟩,h2,e⟩,hs=>⟨p,q,⟨n,DataW.trod_carry n _ _ _ h1 (fun x hx=>hs x (by rw [e];exact List.mem_append_left _ hx))⟩,yjq h2 (fun x hx=>hs x (by rw [e];exact List.mem_append_right _ hx)),e⟩
theorem y3u {f:Func} {s:ChangeSpec} {apart fresh handsOn again:Bool} {W W':World} {args:Array Value} {ds gs:List (DataW H)} {before:List MemPlace}
  (hW:DataW.Whole enc Tryz.prog f.params.toList s.vars apart W args.toList ds gs before) (hv:s.vars=[]) (hT: ∀t∈f.params.toList,t<Tryz.prog.types.size)
  (hr:f.resultTypes= #[4]) (hs:s.fn H (ds++gs)={results:=[.lit (.bool true)],args:=ds}) (hb:Below W.heap.size W W'):
  s.post enc Tryz.prog f apart fresh handsOn again W args (.bool true) W':=by
 have hold: ∀p∈before,(fun b=>decide (b<W.heap.size)) p.block=true:=fun p hp=>by simpa using hW.lt p hp
 have hlt: ∀p∈before,p.block<W.heap.size:=fun p hp=>hW.lt p hp
 obtain ⟨p,q,hA,hV,hpq,hz,hn⟩:=hW
 have hWw:DataW.Whole enc Tryz.prog f.params.toList s.vars apart W args.toList ds gs before:=⟨p,q,hA,hV,hpq,hz,hn⟩
 rw [hv] at hV
 obtain ⟨rfl,rfl⟩:=trodVars_none hV
 rw [List.append_nil] at hpq
 subst hpq
 have hargs: ∀sp:Nat->Bool,(∀x∈before,sp x.block=true)->DataW.TrodAll enc Tryz.prog W' 0 sp true f.params.toList args.toList ds before:=fun sp hsp=>
  yjq (DataW.TrodAll.respare kids full hT hA hsp) fun x hx=>hb.same (hlt x hx)
 have hres: ∀(b:Nat) (sp:Nat->Bool) (hd:Bool),DataW.TrodAll enc Tryz.prog W' b sp hd f.resultTypes.toList ((Value.bool true).resultList f.resultTypes.size) [.lit (.bool true)] []:=fun b sp hd=>by
  rw [hr]
  exact trodAll_mk1 (shut_bool Tryz.underlying4 _)
 refine ⟨ds,[],before,[],before,[],hWw,?_,?_,?_,hb.frame _,fun _=>?_⟩
 ·rw [hs];exact hres _ _ _
 ·rw [hs];exact hargs _ hold
 ·rw [hv,hs];rfl
 ·refine ⟨?_,[.lit (.bool true)]++ds,[],[]++before,⟨[]++before,[],trodAll_append (hargs _ (fun _ _=>rfl)) (hres _ _ _),?_,by simp,?_,?_⟩,?_⟩
  ·exact ok_one hr (by rfl) (okWide_bool_mk Tryz.underlying4 _)
  ·rw [hv];rfl
  ·intro b off hp
   have hp':MemPlace.cell b off∈before:=by simpa using hp
   rw [hb.frozen (hlt _ hp')]
   exact hz b off hp'
  ·intro ha
   have:=hn ha
   simpa using this
  ·intro p hp _
   simpa using hp
theorem yve {w:World} {fuel:Nat} {v:Value} {x:DataW H×List MemPlace} (h:DataW.trod enc Tryz.prog w 0 (fun _=>true) true fuel 22 [v]=some x): ∃s:List Int,VR w (fun _=>False) ρ0 (fun _=>False) v (roI s):=by
 rcases open_ints Tryz.underlying22 Tryz.underlying3 (by kernel_rfl) h with ⟨hc,_⟩|⟨a,len,cap,zs,hc,_,hl,_,hz,_,hcell,_⟩
 ·simp only [List.cons.injEq,and_true] at hc
  subst hc
  exact ⟨[], .ro 1 0 (.ints []) none 0 (fun _=>undef) rfl (Nat.le_refl _) (by decide) (fun h=>absurd h (by decide)) (fun j hj=>by simp [Cs.len] at hj)⟩
 ·simp only [List.cons.injEq,and_true] at hc
  subst hc
  simp only [if_true] at hz
  refine ⟨zs.take len,?_⟩
  have e:(zs.take len).length=len:=by rw [List.length_take];omega
  unfold roI
  rw [e]
  refine .ro 1 len (.ints (zs.take len)) (some a) cap (fun j=> .int .i64 (zs.getD j 0)) (by simp [Cs.len];omega) hl (by decide) (fun h0=>⟨a,rfl,?_,fun h=>h,fun j hj=>?_⟩) fun j hj=>?_
  ·have h1:=hcell 0 (by omega)
   unfold World.cell? at h1
   rw [show (a.add 0)=a from rfl] at h1
   split at h1
   ·rename_i hb;exact (Array.getElem?_eq_some_iff.1 hb).1
   ·cases h1
  ·exact hcell j (by simp [Cs.len] at hj;omega)
  ·have hj':j<len:=by simp [Cs.len] at hj;omega
   simp only [Cs.get]
   rw [show (zs.take len).getD j 0=zs.getD j 0 by simp [List.getD_eq_getElem?_getD,List.getElem?_take,hj']]
   exact .int _ _
theorem y5d {w:World} {r:Reach} {b0:Nat} {v:Value} {d:DataW H} {p:List MemPlace} (hv:Value.okWide Tryz.prog w r b0 24 v) (h:DataW.Trod enc Tryz.prog w 0 (fun _=>true) true 24 v d p):
  ∃(s m:List Int) (L:Int),VR w (fun _=>False) ρ0 (fun _=>False) v (dgA s m L):=by
 obtain ⟨v0,v1,v2,y0,y1,y2,n,rfl,_,_,h0,h1,h2⟩:=open_agg3 Tryz.underlying24 (by kernel_rfl) (by kernel_rfl) hv h
 obtain ⟨s,hs⟩:=yve h0
 obtain ⟨m,hm⟩:=yve h1
 obtain ⟨L,e,_⟩:=DataW.trod_int Tryz.underlying3 h2
 simp only [List.cons.injEq,and_true] at e
 subst e
 refine ⟨s,m,L, .agg [v0,v1, .int .i64 L] [roI s,roI m,I L] rfl fun i u x hu hx=>?_⟩
 match i,hu,hx with
 |0,hu,hx=>simp at hu hx;subst hu hx;exact hs
 |1,hu,hx=>simp at hu hx;subst hu hx;exact hm
 |2,hu,hx=>simp at hu hx;subst hu hx;exact .int _ _
end
end Go.Proofs.YtmdjdekgakidhaaGreatDoor
set_option linter.unusedSimpArgs false
set_option linter.unusedVariables false
namespace Go.Proofs.YtmdjdekgakidhaaGreatDoor
set_option maxRecDepth 100000
open Go Go.Joins Go.ChangeShapes Go.WideShapes Go.ChangeAt Go.WideMaps Go.WideElems Go.RowKit
theorem own:ownKnob Tryz.prog.godebug=none:=by kernel_rfl
def yn1:List (String×DataW Unit):=[("math/bits.deBruijn32tab",Rows.laid_math_bits_deBruijn32tab),("math/bits.deBruijn64tab",Rows.laid_math_bits_deBruijn64tab),("internal/strconv.uint64pow10",Rows.laid_internal_strconv_uint64pow10)]
theorem gPow:Tryz.prog.globalNamed "internal/strconv.uint64pow10" =some 0:=by kernel_rfl
theorem tPow:(Tryz.prog.globals[0]?).map (·.type)=some 193:=by kernel_rfl
theorem yr1 {W:World} (h:laidMetH Tryz.prog yn1 W):Good W:=by
 rw [MakeChecks.laidMetH_plain _ _ _ (by kernel_rfl)] at h
 obtain ⟨ps,⟨g0,t0,cs0,f0,p0,q0,hg0,ht0,hv0,hd0,⟨g1,t1,cs1,f1,p1,q1,hg1,ht1,hv1,hd1,⟨g2,t2,cs2,f2,p2,q2,hg2,ht2,hv2,hd2,_,_⟩,_⟩,_⟩,_,_⟩:=h
 obtain rfl:=Option.some.inj (gPow.symm.trans hg2)
 obtain rfl:=Option.some.inj (tPow.symm.trans ht2)
 have e:(Rows.laid_internal_strconv_uint64pow10:DataW Unit)=Lib.tabData .u64 Lib.pow10Tab:=by rfl
 rw [e] at hd2
 unfold Good Lib.TabIs
 rw [hv2,←Lib.cells_of_tab Tryz.underlying193 Tryz.underlying67 (by kernel_rfl) (by kernel_rfl) hd2]
theorem y3v (os:Os) (args:Array Value):laidMetH Tryz.prog yn1 ((World.doorLaid Tryz.prog 400 os).forCall (fun _ _=>0) ⟨#[],args,[]⟩).memory:=
 laidMetH_of_parts3 (fuel:=8) (laidMet_of_run' 8 (by kernel_rfl) (by kernel_rfl)) (by kernel_rfl) (by kernel_rfl)
end Go.Proofs.YtmdjdekgakidhaaGreatDoor
set_option linter.unusedSimpArgs false
set_option linter.unusedVariables false
namespace Go.Proofs.YtmdjdekgakidhaaGreatDoor
open Go Go.Joins Go.ChangeShapes Go.WideShapes Go.ChangeAt Go.WideMaps Go.WideElems Go.RowKit
set_option maxRecDepth 100000
section
variable {H:Type} {enc:TypeId×Value->H}
theorem yxr {w:World} {r:Reach} {b0 t:Nat} {v:Value} (hu: ∀fs,Tryz.prog.underlying t≠some (.struct fs)) (ha: ∀n e,Tryz.prog.underlying t≠some (.array n e)) (hv:Value.okWide Tryz.prog w r b0 t v):v.cells.toList=[v]:=by
 unfold Value.okWide at hv
 split at hv
 ·exact absurd ‹_› (hu _)
 ·exact absurd ‹_› (ha _ _)
 ·unfold Cell.okWide at hv
  cases v<;>first|rfl|(exfalso;split at hv<;>simp_all [Cell.ok])
end
end Go.Proofs.YtmdjdekgakidhaaGreatDoor
set_option linter.unusedSimpArgs false
set_option linter.unusedVariables false
namespace Go.Proofs.YtmdjdekgakidhaaGreatDoor
open Go Go.Joins Go.ChangeShapes Go.WideShapes Go.ChangeAt Go.WideMaps Go.WideElems Go.RowKit
set_option maxRecDepth 100000
theorem yz1 {H:Type} {enc:TypeId×Value->H} {w:World} {r:Reach} {b0:Nat} {v:Value} {d:DataW H} {p:List MemPlace} (hv:Value.okWide Tryz.prog w r b0 3 v) (h:DataW.Trod enc Tryz.prog w 0 (fun _=>true) true 3 v d p):
  ∃n:Int,VR w (fun _=>False) ρ0 (fun _=>False) v (.int .i64 n):=by
 obtain ⟨fuel,hf⟩:=h
 rw [yxr (fun fs=>by rw [Tryz.underlying3];simp) (fun n e=>by rw [Tryz.underlying3];simp) hv] at hf
 obtain ⟨n,hc,_,hw⟩:=DataW.trod_int Tryz.underlying3 hf
 simp only [List.cons.injEq,and_true] at hc
 subst hc
 exact ⟨n, .int _ _⟩
end Go.Proofs.YtmdjdekgakidhaaGreatDoor
set_option linter.unusedSimpArgs false
set_option linter.unusedVariables false
namespace Go.Proofs.YtmdjdekgakidhaaGreatDoor
open Go Go.RowKit
set_option linter.unusedVariables false
section
variable {P:Program} {B:Nat} {w0:ybo} {Mx:Nat->Prop} {N:Nat} {fr:Fr} {H:Hp}
theorem awO.of {o:Oper} {K:Fr->Hp->Prop} (hc:cvOk P o.op=true) (hq:quF P H (evA fr) o.op=none) (ha:alF P (hnew H) (evA fr) o.op=none) (hx:awX P N o fr H K):awO P N o fr H K:=by
 unfold awO
 rw [hq,ha]
 exact ⟨hc,hx⟩
theorem Oper.wp_value {o:Oper} {a:Act} {w w':World} {v:Value} {K:Act->World->Prop} {Q:Exit->Act->World->Prop} (h:(execOp a.eval o).run P w= .ok (.value v) w') (hk:K (a.put o.dst v) w'):o.wp P a w K Q:=by
 unfold Oper.wp;rw [h];exact hk
theorem yun {w:World} {ty:TypeId} {r bm since c0:Nat} {seen:List Nat} {es:Array MapEntry} {clock:Nat} (hr:w.heap[r]?=some (.mapIter (some bm) since seen.toArray c0)) (hb:w.heap[bm]?=some (.map es clock)) (hold: ∀x∈es.toList,x.born<since) (hsc:since<=c0) (ad:Addr) (had:ad.block=r/\ad.off=0):
  ((∀x∈es.toList,x.born∈seen)/\(Instr.next (.pointer (some ad)) false ty).run P w= .ok (.tuple #[.bool false]) w)\/
  ∃(j:Nat) (e:MapEntry) (w1:World),es[j]?=some e/\e.born∉seen/\(w1=w\/w1={w with drawn:=w.drawn+1})/\(Instr.next (.pointer (some ad)) false ty).run P w= .ok (.tuple #[.bool true,e.key,e.val]) {w1 with heap:=w1.heap.setIfInBounds r (.mapIter (some bm) since (seen++[e.born]).toArray clock)}:=by
 obtain ⟨ab,ao,asp⟩:=ad
 obtain ⟨rfl,rfl⟩:=had
 simp only [Instr.next,getObj,Sem.run_bind,Sem.run,hr,hb,Result.andThen,next_test_false seen.toArray es since c0 hold hsc,Bool.false_eq_true,if_false]
 have hmem: ∀x∈(Array.filter (fun e=> !seen.toArray.contains e.born) es).toList,x∈es.toList/\x.born∉seen:=fun x hx=>by simp at hx⊢;exact hx
 have hall:(Array.filter (fun e=> !seen.toArray.contains e.born) es)= #[]-> ∀x∈es.toList,x.born∈seen:=fun h x hx=>by
  rw [Array.filter_eq_empty_iff] at h
  have:=h x (by simpa using hx)
  simpa using this
 generalize Array.filter (fun e=> !seen.toArray.contains e.born) es=L at hmem hall⊢
 have e1:L.filter (fun x=>decide (x.born<since))=L:=Array.filter_eq_self.2 (fun x hx=>by simpa using hold x (hmem x (by simpa using hx)).1)
 have e2:L.filter (fun x=>decide (x.born≥since))= #[]:=by
  rw [Array.filter_eq_empty_iff]
  intro x hx
  have:=hold x (hmem x (by simpa using hx)).1
  simp
  omega
 simp only [e1,e2,Array.append_empty]
 by_cases h0:L.size=0
 ·left
  have:L= #[]:=Array.eq_empty_of_size_eq_zero h0
  refine ⟨hall this,?_⟩
  subst this
  simp [choose,Sem.run,Question.forced]
 ·right
  have hne:L.isEmpty=false:=by simp [Array.isEmpty,h0]
  simp only [hne,Bool.false_eq_true,if_false,Array.empty_append,Array.size_map]
  have hch: ∃(j:Nat) (w1:World),j<L.size/\(w1=w\/w1={w with drawn:=w.drawn+1})/\(if (Question.mapNext L.size).forced=true then (Result.ok 0 w:Result Nat) else Result.ok ((Question.mapNext L.size).cut (w.tape w.drawn (Question.mapNext L.size))) w.drew)= .ok j w1:=by
   by_cases hf:L.size<=1
   ·exact ⟨0,w,by omega, .inl rfl,by simp [Question.forced,hf]⟩
   ·refine ⟨_,w.drew,?_, .inr rfl,by rw [if_neg (by simp [Question.forced,hf])]⟩
    simp only [Question.cut]
    exact Nat.mod_lt _ (by omega)
  obtain ⟨j,w1,hj,hw1,hrun⟩:=hch
  obtain ⟨m1,m2⟩:=hmem L[j] (by simp)
  obtain ⟨i,hi,hie⟩:=List.mem_iff_getElem.1 m1
  refine ⟨i,L[j],w1,?_,m2,hw1,?_⟩
  ·rw [←hie];simp at hi⊢
  ·have hb1:w1.heap[ab]?=some (.mapIter (some bm) since seen.toArray c0):=by rcases hw1 with rfl|rfl<;>exact hr
   simp only [choose,Sem.run]
   by_cases hf:(Question.mapNext L.size).forced=true
   ·rw [if_pos hf] at hrun⊢
    injection hrun with q1 q2
    subst q1 q2
    simp [hj,setObj,Sem.run,hb1]
   ·rw [if_neg hf] at hrun⊢
    injection hrun with q1 q2
    subst q2
    simp only [q1]
    simp [hj,setObj,Sem.run,hb1]
theorem SpA.next {o:Oper} {x:Operand} {iid mid since last t ck:Nat} {seen:List Nat} {l:List (ByteArray×Nat×AV)} {K:Fr->Hp->Prop} (ho:o.op= .next x false) (hd:dok o.dst N=true) (hx:evA fr x= .ptr iid 0) (hi:hget H iid=some (.iter mid since seen last)) (hm:hget H mid=some (.gmap t ck l))
  (hb: ∀q∈l,q.2.1<since) (hsl:since<=last) (h1:(∀q∈l,q.2.1∈seen)->K (fput fr o.dst (.tup [.bool false])) H)
  (h2: ∀q∈l,q.2.1∉seen->K (fput fr o.dst (.tup [.bool true, .str q.1,q.2.2])) (hset H iid (.iter mid since (seen++[q.2.1]) ck))):SpA P N o K fr H:=by
 intro B w0 Mx w ρ a hs Q
 obtain ⟨i1,i2,i3⟩:=hs.objs iid _ hi
 obtain ⟨es,g1,g2,g3⟩:=hs.objs mid _ hm
 have ex:=(hx▸hs.ev x).ptr_inv.1
 have ead:(ρ iid).add 0=ρ iid:=rfl
 rw [ead] at ex
 have hold: ∀e∈es.toList,e.born<since:=fun e he=>by
  obtain ⟨j,hj,rfl⟩:=List.mem_iff_getElem.1 he
  have hj2:j<l.length:=by rw [←g2];simpa using hj
  obtain ⟨_,k2,_⟩:=g3 j _ l[j] (Array.getElem?_eq_getElem (by simpa using hj)) (List.getElem?_eq_getElem hj2)
  show (es[j]'(by simpa using hj)).born<since
  rw [k2];exact hb _ (List.getElem_mem hj2)
 have hrun0:(execOp a.eval o).run P w=((Instr.next (.pointer (some (ρ iid))) false o.type).run P w).andThen fun v w'=> .ok (.value v) w':=by
  simp only [execOp,ho,ex];simp
 rcases yun (P:=P) (ty:=o.type) i3 g1 hold hsl (ρ iid) ⟨rfl,i2⟩ with ⟨k1,k2⟩|⟨j,e,w1,k1,k2,k3,k4⟩
 ·refine Oper.wp_value (by rw [hrun0,k2];rfl) ⟨ρ,_,H,h1 fun q hq=>?_,hs.put hd (.tup [.bool false] [.bool false] rfl fun i v x hv hx=>?_)⟩
  ·obtain ⟨j,hj,rfl⟩:=List.mem_iff_getElem.1 hq
   have hj2:j<es.size:=by omega
   obtain ⟨_,q2,_⟩:=g3 j es[j] l[j] (by simp [hj2]) (List.getElem?_eq_getElem hj)
   rw [←q2];exact k1 _ (by simp)
  ·match i,hv,hx with
   |0,hv,hx=>cases hv;cases hx;exact .bool _
 ·have hj:j<es.size:=(Array.getElem?_eq_some_iff.1 k1).1
  have hj2:j<l.length:=by omega
  obtain ⟨q1,q2,q3⟩:=g3 j e l[j] k1 (List.getElem?_eq_getElem hj2)
  have hs1:Sim B w0 Mx N w1 ρ fr H a:=by
   rcases k3 with rfl|rfl
   ·exact hs
   ·exact hs.draw
  have i3':w1.heap[(ρ iid).block]?=some (.mapIter (some (ρ mid).block) since seen.toArray last):=by rcases k3 with rfl|rfl<;>exact i3
  have hs2:=hs1.chgO (b2:= .mapIter (some (ρ mid).block) since (seen++[e.born]).toArray ck) (o2:= .iter mid since (seen++[e.born]) ck) hi rfl rfl i3' (fun _ _=>by simp) fun M' hc=>⟨(yfd hi mid).2 i1,i2,by simp [yam i3']⟩
  have hq3:VR w1 (MM Mx H ρ) ρ (DD H) e.val (l[j]).2.2:=by
   rcases k3 with rfl|rfl
   ·exact q3
   ·exact q3.carry (w':={w with drawn:=w.drawn+1}) (Nat.le_refl _) (fun _ _ hm=>⟨rfl,hm⟩) (fun id hd=>⟨hd,rfl,fun arr t ha=>⟨arr,ha,rfl⟩⟩)
  have hval:VR {w1 with heap:=w1.heap.setIfInBounds (ρ iid).block (.mapIter (some (ρ mid).block) since (seen++[e.born]).toArray ck)} (MM Mx (hset H iid (.iter mid since (seen++[e.born]) ck)) ρ) ρ (DD (hset H iid (.iter mid since (seen++[e.born]) ck))) e.val (l[j]).2.2:=by
   refine hq3.carry (by simp) (fun b hb hm=>?_) (fun i hi'=>⟨(yfd hi i).2 hi',rfl,fun ar tt har=>?_⟩)
   ·have hne:b≠(ρ iid).block:=fun e'=>hm (.inr ⟨iid,_,hi,rfl,e'.symm⟩)
    exact ⟨by show (w1.heap.setIfInBounds _ _)[b]?=_;rw [Array.getElem?_setIfInBounds_ne (Ne.symm hne)],fun hh=>hm ((yhy (o':= .iter mid since (seen++[e.born]) ck) hi rfl b).1 hh)⟩
   ·by_cases e':(ρ i).block=(ρ iid).block
    ·rw [e'] at har;rw [i3'] at har;cases har
    ·exact ⟨ar,by show (w1.heap.setIfInBounds _ _)[(ρ i).block]?=_;rw [Array.getElem?_setIfInBounds_ne (Ne.symm e')];exact har,rfl⟩
  refine Oper.wp_value (by rw [hrun0,k4];rfl) ⟨ρ,_,_,?_,hs2.put hd (.tup [.bool true,e.key,e.val] [.bool true, .str (l[j]).1,(l[j]).2.2] rfl fun i v x hv hx=>?_)⟩
  ·have:=h2 l[j] (List.getElem_mem hj2) (by rw [←q2];exact k2)
   rw [←q2] at this
   exact this
  ·match i,hv,hx with
   |0,hv,hx=>cases hv;cases hx;exact .bool _
   |1,hv,hx=>cases hv;cases hx;rw [q1];exact .str _
   |2,hv,hx=>cases hv;cases hx;exact hval
theorem VR.mp_D {w:World} {M:Nat->Prop} {ρ:Nat->Addr} {D:Nat->Prop} {v:Value} {id:Nat} (h:VR w M ρ D v (.mp id)):D id:=by cases h;assumption
theorem SpA.range {o:Oper} {x:Operand} {xt kt et mid t ck:Nat} {l:List (ByteArray×Nat×AV)} {K:Fr->Hp->Prop} (ho:o.op= .range xt x) (hd:dok o.dst N=true) (htk:tk P xt= .map kt et) (hx:evA fr x= .mp mid) (hm:hget H mid=some (.gmap t ck l))
  (h:K (fput fr o.dst (.ptr (hnew H) 0)) ((hnew H, .iter mid ck [] ck)::H)):SpA P N o K fr H:=by
 intro B w0 Mx w ρ a hs Q
 obtain ⟨es,g1,g2,g3⟩:=hs.objs mid _ hm
 have ex:=(hx▸hs.ev x).mp_inv
 have hn:hget H (hnew H)=none:=yfc (Nat.le_refl _)
 have hmn:mid≠hnew H:=fun e=>by rw [←e,hm] at hn;cases hn
 have hs2:=hs.alloc (hnew H) hn (.mapIter (some (ρ mid).block) ck #[] ck) (.iter mid ck [] ck) fun M' ρ' D' hr hc=>by
  have h0:=hc (D:=DD H) (fun _ h=>h) (VR.mp (w:=w) (M:=MM Mx H ρ) (ρ:=ρ) mid ⟨_,hm⟩)
  have h1:=h0.mp_inv
  simp only [Value.map.injEq,Option.some.injEq] at h1
  exact ⟨h0.mp_D,by rw [hr],by rw [hr,←h1];exact ya4⟩
 ·refine Oper.wp_value (v:= .pointer (some ⟨w.heap.size,0,none⟩)) (w':=w.alloc (.mapIter (some (ρ mid).block) ck #[] ck)) ?_ ⟨_,_,_,h,hs2.put hd ?_⟩
  ·simp only [execOp,ho,ex]
   simp [Instr.range,run_underlying (yc2 htk),getObj,Sem.run,g1,newObj]
  ·have:=VR.ptr (w:=w.alloc (.mapIter (some (ρ mid).block) ck #[] ck)) (M:=MM Mx ((hnew H, .iter mid ck [] ck)::H) (upd ρ (hnew H) ⟨w.heap.size,0,none⟩)) (ρ:=upd ρ (hnew H) ⟨w.heap.size,0,none⟩) (D:=DD ((hnew H,AObj.iter mid ck [] ck)::H)) (hnew H) 0 yg2
   rwa [yaq] at this
end
end Go.Proofs.YtmdjdekgakidhaaGreatDoor
