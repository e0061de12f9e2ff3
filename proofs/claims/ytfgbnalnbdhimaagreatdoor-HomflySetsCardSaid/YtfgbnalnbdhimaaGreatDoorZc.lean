/- Statements that draw their order: the lists by tables. -/
import Derived.Test.YtfgbnalnbdhimaaGreatDoorGc
import Derived.Test.YtfgbnalnbdhimaaGreatDoorTy
import Derived.Test.YtfgbnalnbdhimaaGreatDoorZa
import Derived.Test.YtfgbnalnbdhimaaGreatDoorRows
import Derived.ProofKit
import Derived.LaidMore
import Derived.OpenShut
import Derived.Stop.Joined
import Derived.ReadAgain
import Derived.Lib.SmallJoins
import Derived.ChangeSlices
import Derived.Test.YtfgbnalnbdhimaaGreatDoorTie
import Derived.Test.YtfgbnalnbdhimaaGreatDoorCards
import Derived.SevenTiedAt
import Derived.Deep.Grids
import Derived.Laws.IdiomArrays
set_option linter.unusedSimpArgs false
set_option linter.unusedVariables false
namespace Go.Proofs.YtfgbnalnbdhimaaGreatDoor
open Go Go.RowKit
def lkT {α:Type}:List (Nat×α)->Nat->Option α
 |[],_=>none
 |(k,x)::l,n=>cond (Nat.beq k n) (some x) (lkT l n)
abbrev TbA:Type:=List (Nat×List (List Nat)×List (List Nat))
abbrev TbT:Type:=List (Nat×Tr)
section
variable {N:Nat} {ops:Array Oper} {id:Nat} {fr:Fr} {H:Hp} {Q:Exit->Fr->Hp->Prop} {ex dl:List (List Nat)} {l:List Nat} {t:Tr}
theorem tbN (T:TbA) (h:awD Tryz.prog N ops (hnew H) 0 ops.toList ex dl fr H (Q .normal)) (hT:lkT T id=some (ex,dl):=by rfl) (hchk:(chk ops ex dl&&(ex.length==ops.size)&&(dl.length==ops.size)&&yoo ops)=true:=by decide+kernel):ya2 Tryz.prog N id ops fr H Q:= .intro ex dl hchk mixed h
theorem tbL (T:TbA) (h:awD Tryz.prog N ops (hnew H) 0 (ops.toList.take (ops.size-1)) ex dl fr H (yop Tryz.prog N ops (Q .normal))) (hT:lkT T id=some (ex,dl):=by rfl) (hchk:(chk ops ex dl&&(ex.length==ops.size)&&(dl.length==ops.size)&&yoo ops&&ymo ops)=true:=by decide+kernel):ya2 Tryz.prog N id ops fr H Q:= .introL ex dl hchk mixed h
theorem tbT (T:TbT) (h:awT Tryz.prog N ops t fr H (Q .normal)) (hT:lkT T id=some t:=by rfl) (hchk:chkT ops (Array.replicate ops.size false) ops.size t=true:=by decide+kernel):ya2 Tryz.prog N id ops fr H Q:= .introT t hchk mixed h
end
section
variable {P:Program} {N:Nat} {ops:Array Oper} {fr:Fr} {H Hd:Hp} {K:Fr->Hp->Prop} {d:Option Nat} {g:Nat} {xs:List AV} {v:AV}
theorem cgL {r:List Oper} (k:awL P N ops r (fput fr d v) H K) (hp:xs.all p3=true:=by rfl) (h:Fn P g xs v:=by assumption):y1o P N ops d r fr H K g xs:=⟨.fn hp h k⟩
theorem cgD {base j:Nat} {r:List Oper} {exs dls:List (List Nat)} {nf:Bool} (k:awD P N ops base (j+1) r exs dls (fput fr d v) H K) (hp:xs.all p3=true:=by rfl) (h:Fn P g xs v:=by assumption):yul P N ops base j fr H K d Hd r exs dls g xs nf:=⟨ybd.fn hp h k⟩
end
attribute [go_sem_proc] Nat.reduceLT Nat.reduceLeDiff Nat.reduceEqDiff Nat.reduceBEq Nat.reduceBNe Nat.reduceAdd Nat.reduceMul Nat.reduceSub Nat.reduceDiv Nat.reduceMod Int.reduceToNat Int.reduceAdd Int.reduceLT Int.reduceLE Int.reduceEq Int.reduceSub Int.reduceMul Int.reduceNeg reduceCtorEq
attribute [go_sem_proc ↓] reduceIte
end Go.Proofs.YtfgbnalnbdhimaaGreatDoor
set_option linter.unusedSimpArgs false
set_option linter.unusedVariables false
namespace Go.Proofs.YtfgbnalnbdhimaaGreatDoor
open Go Go.RowKit
set_option maxRecDepth 100000
abbrev roI (l:List Int):AV:= .ro 1 l.length (.ints l)
abbrev roB (l:List Bool):AV:= .ro 1 l.length (.bools l)
abbrev dgA (s m:List Int) (L:Int):AV:= .agg [roI s,roI m,I L]
attribute [go_sem] roI roB dgA
def roF (l:List Int):AV:= .ro 1 l.length (.ints l)
abbrev roLL (ls:List (List Int)):AV:= .ro 1 ls.length (.lst (ls.map roF))
theorem yxk (H:Hp) (l:List Int):s3 H (roF l)=true:=rfl
theorem yea (H:Hp) (ls:List (List Int)):ls.all (s3 H∘roF)=true:=by simp [yxk]
theorem y3x (n:Nat):cutV n∘roF=roF:=by funext l;rfl
theorem y0r (H:Hp) (n:Nat):snap H (n+1)∘roF=roF:=by funext l;rfl
theorem yn3 (H:Hp) (n:Nat) (ls:List (List Int)): ∀x∈ls.map roF,yan H (n+1) x:=fun x hx=>by
 obtain ⟨l,_,rfl⟩:=List.mem_map.1 hx;trivial
theorem y0s (ls:List (List Int)) (i:Nat) (h:i<ls.length):(ls.map roF).getD i .any=roI (ls.getD i []):=by simp [h,roF]
attribute [go_sem] yxk yea y3x y0r
theorem ysw {a b:Int} (h:0<=a):a.tmod b=a % b:=Int.tmod_eq_emod_of_nonneg h
theorem yc1 {a b:Int} (h:0<=a):a.tdiv b=a/b:=Int.tdiv_eq_ediv_of_nonneg h
theorem y3y (h b:Int) (h0:0<=h) (h1:h<=100000):Fn Tryz.prog 90 [I h,I b] (I (h-h % 4+(h % 4+b.tmod 4+4)% 4)):=by
 have e1:h.tmod 4=h % 4:=Int.tmod_eq_emod_of_nonneg h0
 have e2: -4<b.tmod 4/\b.tmod 4<4:=⟨Int.lt_tmod_of_pos b (by decide),Int.tmod_lt_of_pos b (by decide)⟩
 have e3:(h % 4+b.tmod 4+4).tmod 4=(h % 4+b.tmod 4+4)% 4:=Int.tmod_eq_emod_of_nonneg (by omega)
 refine Fn.intro [.tmp 4] Tryz.func90 rfl rfl (by decide) (by simp [Tryz.ntmps90]) ?_;rw [Tryz.ntmps90]
 repeat' (first|omega|(try apply yaa);simp only [go_sem]|apply yab<;>(intro h_;(try simp only [h_]);revert h_)|apply And.intro|with_reducible intro h_|trivial)
 all_goals try simp only [e1,e3]
 all_goals try omega
theorem ygw (s m:List Int) (L h:Int) (h0:0<=h) (h1:h<4*s.length) (hs:s.length<=1000):Fn Tryz.prog 64 [dgA s m L,I h] (.bool (outB s h)):=by
 have e1:h.tmod 4=h % 4:=Int.tmod_eq_emod_of_nonneg h0
 have e2:h.tdiv 4=h/4:=Int.tdiv_eq_ediv_of_nonneg h0
 refine Fn.intro [.tmp 4] Tryz.func64 rfl rfl (by decide) (by simp [Tryz.ntmps64]) ?_;rw [Tryz.ntmps64]
 repeat' (first|omega|(try apply yaa);simp only [go_sem]|apply yab<;>(intro h_;(try simp only [h_]);revert h_)|apply And.intro|with_reducible intro h_|trivial)
 all_goals try simp only [e1,e2] at*
 all_goals try omega
 all_goals simp_all [outB]
theorem y0t (s m:List Int) (L:Int) (hs:s.length<=1000) (hm:ycl m s.length):Fn Tryz.prog 89 [dgA s m L] (.tup [roI (yat m s.length).1,I (yat m s.length).2]):=by
 refine Fn.intro [.tmp 2, .tmp 3] Tryz.func89 rfl rfl (by decide) (by simp [Tryz.ntmps89]) ?_;rw [Tryz.ntmps89]
 repeat' (first|omega|(try apply yaa);simp only [go_sem]|apply yab<;>(intro h_;(try simp only [h_]);revert h_)|apply And.intro|with_reducible intro h_|trivial)
 refine yai.intro (fun n fr H=> ∃k:Nat,k<=s.length/\n=s.length-k/\fr=[(18,I k),(17,I s.length),(4, .sl 1 1 0 s.length),(1, .ptr 0 0)]/\H=[(1, .cells 3 (.ints (List.replicate k (-1)++List.replicate (s.length-k) 0))),(0, .cells 45 (.lst [roI s,roI m,I L]))]) ?_ ?_
 ·refine ⟨_,_,_,?_,0,by omega,rfl,rfl,rfl⟩
  refine Wk.sub ?_ ?_<;>simp only [go_sem]
  simp
 rintro n fr H ⟨k,hk,rfl,rfl,rfl⟩
 repeat' (first|omega|(try apply yaa);simp only [go_sem]|apply yab<;>(intro h_;(try simp only [h_]);revert h_)|apply And.intro|with_reducible intro h_|trivial)
 ·refine ⟨_,_,_,?_,?_,⟨k+1,by omega,rfl,rfl,rfl⟩⟩
  ·omega
  ·refine Wk.sub ?_ ?_<;>simp only [go_sem]
   exact y0d _ _ _ _ (by omega)
 obtain rfl:k=s.length:=by omega
 refine yai.intro (fun n fr H=> ∃k:Nat,k<=s.length/\n=s.length-k/\fr=[(27,I k),(26,I s.length),(6,I (lbN m s.length k).2),(4, .sl 1 1 0 s.length),(1, .ptr 0 0)]/\H=[(1, .cells 3 (.ints (lbN m s.length k).1)),(0, .cells 45 (.lst [roI s,roI m,I L]))]) ?_ ?_
 ·refine ⟨_,_,_,?_,0,by omega,rfl,rfl,rfl⟩
  refine Wk.sub ?_ ?_<;>simp only [go_sem]
  ·simp [lbN]
  ·simp [lbN]
 rintro n fr H ⟨k,hk,rfl,rfl,rfl⟩
 obtain ⟨hp1,hp2,hp3⟩:=yih hm k hk
 have hpl:=hp1.1
 repeat' (first|omega|(try apply yaa);simp only [go_sem]|apply yab<;>(intro h_;(try simp only [h_]);revert h_)|apply And.intro|with_reducible intro h_|trivial)
 ·refine ⟨_,_,_,?_,?_,⟨k+1,by omega,rfl,rfl,rfl⟩⟩
  ·omega
  ·have e:lbN m s.length (k+1)=lbN m s.length k:=by simp only [lbN,lbC];rw [if_pos (by assumption)]
   refine Wk.sub ?_ ?_<;>(simp only [go_sem];rw [e])
 ·have hneg:(lbN m s.length k).1.getD k 0<0:=by assumption
  have hkn:k<s.length:=by omega
  have eN:lbN m s.length (k+1)=(bfs m (lbN m s.length k).2 (2*s.length+1) ((lbN m s.length k).1.set k (lbN m s.length k).2) [(k:Int)],(lbN m s.length k).2+1):=by simp only [lbN,lbC];rw [if_neg (by omega)]
  have hn0:=ykk (i:=k) (by omega) hneg hp2
  have hnl:=yr8 (lbN m s.length k).1
  have hp0:pOk s.length (lbN m s.length k).2 ((lbN m s.length k).1.set k (lbN m s.length k).2):=⟨by simp [hpl],fun i hi=>by
   by_cases e:k=i
   ·subst e;rw [yar (by omega)];omega
   ·rw [yam e];exact hp1.2 i hi⟩
  generalize (lbN m s.length k).1.set k (lbN m s.length k).2=part0 at*
  refine yai.intro (fun f fr H=> ∃(part q cq:List Int) (off:Nat),2*negs part+q.length<=f/\f<=2*s.length+1/\pOk s.length (lbN m s.length k).2 part/\qOk s.length q/\off+q.length=cq.length/\cq.drop off=q/\bfs m (lbN m s.length k).2 f part q=bfs m (lbN m s.length k).2 (2*s.length+1) part0 [(k:Int)]/\
   fr=[(8, .sl 1 2 off q.length),(27,I k),(26,I s.length),(6,I (lbN m s.length k).2),(4, .sl 1 1 0 s.length),(1, .ptr 0 0)]/\H=[(2, .cells 3 (.ints cq)),(1, .cells 3 (.ints part)),(0, .cells 45 (.lst [roI s,roI m,I L]))]) ?_ ?_
  ·refine ⟨_,_,_,?_,part0,[(k:Int)],[(k:Int)],0,?_,Nat.le_refl _,hp0,fun x hx=>by simp at hx;omega,rfl,rfl,rfl,rfl,rfl⟩
   ·refine Wk.sub ?_ ?_<;>simp only [go_sem]
   ·simp only [List.length_singleton];omega
  rintro f fr H ⟨part,q,cq,off,hf,hf2,hpp,hqq,hoc,hdr,hbf,rfl,rfl⟩
  have hppl:=hpp.1
  repeat' (first|omega|(try apply yaa);simp only [go_sem]|apply yab<;>(intro h_;(try simp only [h_]);revert h_)|apply And.intro|with_reducible intro h_|trivial)
  ·--the four neighbours
   have hq0:0<q.length:=by omega
   obtain ⟨c,q',rfl⟩: ∃c q',q=c::q':=by
    cases q with
    |nil=>simp at hq0
    |cons c q'=>exact ⟨c,q',rfl⟩
   have hcg:cq.getD off 0=c:=by
    have:=congrArg (fun l=>l.getD 0 0) hdr
    simpa using this
   have hdr':cq.drop (off+1)=q':=by
    have:=congrArg List.tail hdr
    simpa using this
   have hcr:=hqq c (by simp)
   have hqq':qOk s.length q':=fun x hx=>hqq x (by simp [hx])
   simp only [List.length_cons] at hf hoc
   rw [hcg]
   refine yai.intro (fun j fr H=> ∃(i:Nat) (cq off':_),j=4-i/\i<=4/\off'+(lb4 m c (lbN m s.length k).2 (part,q') i).2.length=(cq:List Int).length/\cq.drop off'=(lb4 m c (lbN m s.length k).2 (part,q') i).2/\
    fr=[(49,I i),(8, .sl 1 2 off' (lb4 m c (lbN m s.length k).2 (part,q') i).2.length),(9,I c),(27,I k),(26,I s.length),(6,I (lbN m s.length k).2),(4, .sl 1 1 0 s.length),(1, .ptr 0 0)]/\H=[(2, .cells 3 (.ints cq)),(1, .cells 3 (.ints (lb4 m c (lbN m s.length k).2 (part,q') i).1)),(0, .cells 45 (.lst [roI s,roI m,I L]))]) ?_ ?_
   ·refine ⟨_,_,_,?_,0,cq,off+1,rfl,by omega,by simp only [lb4];omega,by simp only [lb4];exact hdr',rfl,rfl⟩
    refine Wk.sub ?_ ?_<;>simp only [go_sem]
    ·simp [lb4]
    ·simp [lb4]
   rintro j fr H ⟨i,cq,off',rfl,hi,hol,hod,rfl,rfl⟩
   obtain ⟨g1,g2,g3,g5⟩:=ylo hm hcr hp2 (st:=(part,q')) hpp hqq' i hi
   have g1l:=g1.1
   simp only at g3 g5
   by_cases hi4:i<4
   ·have hmr:=hm.2 (4*c+i).toNat (by omega)
    have hml:=hm.1
    have e2:(m.getD (4*c+i).toNat 0).tdiv 4=m.getD (4*c+i).toNat 0/4:=yc1 hmr.1
    have hto:0<=m.getD (4*c+i).toNat 0/4/\m.getD (4*c+i).toNat 0/4<s.length:=by omega
    have eL:lb4 m c (lbN m s.length k).2 (part,q') (i+1)=lb1 m c (lbN m s.length k).2 i (lb4 m c (lbN m s.length k).2 (part,q') i):=rfl
    repeat' (first|omega|(try apply yaa);simp only [go_sem,e2]|apply yab<;>(intro h_;(try simp only [h_]);revert h_)|apply And.intro|with_reducible intro h_|trivial)
    ·have hng:(lb4 m c (lbN m s.length k).2 (part,q') i).1.getD (m.getD (4*c+i).toNat 0/4).toNat 0<0:=by assumption
     have eB:lb4 m c (lbN m s.length k).2 (part,q') (i+1)=((lb4 m c (lbN m s.length k).2 (part,q') i).1.set (m.getD (4*c+i).toNat 0/4).toNat (lbN m s.length k).2,(lb4 m c (lbN m s.length k).2 (part,q') i).2++[m.getD (4*c+i).toNat 0/4]):=by
      rw [eL];unfold lb1;simp only;rw [if_pos hng]
     refine ⟨_,_,_,?_,?_,⟨i+1,cq.drop off'++[m.getD (4*c+i).toNat 0/4],0,rfl,by omega,?_,?_,rfl,rfl⟩⟩
     ·omega
     ·refine Wk.sub ?_ ?_<;>(rw [eB];simp only [go_sem])
     ·rw [eB,hod];simp
     ·rw [eB,hod];simp
    ·have hng:0<=(lb4 m c (lbN m s.length k).2 (part,q') i).1.getD (m.getD (4*c+i).toNat 0/4).toNat 0:=by assumption
     have eB:lb4 m c (lbN m s.length k).2 (part,q') (i+1)=lb4 m c (lbN m s.length k).2 (part,q') i:=by
      rw [eL];unfold lb1;simp only;rw [if_neg (by omega)]
     refine ⟨_,_,_,?_,?_,⟨i+1,cq,off',rfl,by omega,?_,?_,rfl,rfl⟩⟩
     ·omega
     ·refine Wk.sub ?_ ?_<;>(rw [eB];simp only [go_sem])
     ·rw [eB];exact hol
     ·rw [eB];exact hod
   ·obtain rfl:i=4:=by omega
    repeat' (first|omega|(try apply yaa);simp only [go_sem]|apply yab<;>(intro h_;(try simp only [h_]);revert h_)|apply And.intro|with_reducible intro h_|trivial)
    obtain ⟨f',rfl⟩: ∃f',f=f'+1:=⟨f-1,by omega⟩
    refine ⟨f',_,_,?_,?_,⟨(lb4 m c (lbN m s.length k).2 (part,q') 4).1,(lb4 m c (lbN m s.length k).2 (part,q') 4).2,cq,off',?_,?_,g1,g2,hol,hod,?_,rfl,rfl⟩⟩
    ·omega
    ·refine Wk.sub ?_ ?_<;>simp only [go_sem]
    ·omega
    ·omega
    ·rw [←hbf];rfl
  ·obtain rfl:q=[]:=List.eq_nil_of_length_eq_zero (by omega)
   have eP:bfs m (lbN m s.length k).2 f part []=part:=by unfold bfs;rfl
   rw [eP] at hbf
   refine ⟨_,_,_,?_,?_,⟨k+1,by omega,rfl,rfl,rfl⟩⟩
   ·omega
   ·refine Wk.sub ?_ ?_<;>(rw [eN];simp only [go_sem])
    exact hbf
 ·obtain rfl:k=s.length:=by omega
  exact hpl.symm
 ·obtain rfl:k=s.length:=by omega
  exact List.take_of_length_le (by omega)
 ·obtain rfl:k=s.length:=by omega
  rfl
end Go.Proofs.YtfgbnalnbdhimaaGreatDoor
set_option linter.unusedSimpArgs false
set_option linter.unusedVariables false
namespace Go.Proofs.YtfgbnalnbdhimaaGreatDoor
set_option maxRecDepth 100000
open Go Go.Joins Go.ChangeShapes Go.WideShapes Go.ChangeAt Go.WideMaps Go.WideElems Go.RowKit
theorem kids:Kids Tryz.prog (· <Tryz.prog.types.size):=kids_rows (by kernel_rfl) (by kernel_rfl)
theorem full: ∀t e,t<Tryz.prog.types.size->Tryz.prog.underlying t=some (.slice e)->0<Tryz.prog.cellsOf e:=slices_full_of Tryz.prog (by kernel_rfl)
section
variable {H:Type} {enc:TypeId×Value->H}
theorem yh6 {P:Program} {W W':World} {base:Nat} {sp:Nat->Bool} {held:Bool}: ∀{ts:List TypeId} {vs:List Value} {ds:List (DataW H)} {ps:List MemPlace},DataW.TrodAll enc P W base sp held ts vs ds ps->(∀p∈ps,W.sameAt W' p)->DataW.TrodAll enc P W' base sp held ts vs ds ps
 |[],[],[],_,h,_=>h
 |_::_,_::_,_::_,_,⟨p,q,⟨n,h1⟩,h2,e⟩,hs=>⟨p,q,⟨n,DataW.trod_carry n _ _ _ h1 (fun x hx=>hs x (by rw [e];exact List.mem_append_left _ hx))⟩,yh6 h2 (fun x hx=>hs x (by rw [e];exact List.mem_append_right _ hx)),e⟩
theorem y0u {f:Func} {s:ChangeSpec} {apart fresh handsOn again:Bool} {W W':World} {args:Array Value} {ds gs:List (DataW H)} {before:List MemPlace}
  (hW:DataW.Whole enc Tryz.prog f.params.toList s.vars apart W args.toList ds gs before) (hv:s.vars=[]) (hT: ∀t∈f.params.toList,t<Tryz.prog.types.size)
  (hr:f.resultTypes= #[4]) (hs:s.fn H (ds++gs)={results:=[.lit (.bool true)],args:=ds}) (hb:Below W.heap.size W W'):
  s.post enc Tryz.prog f apart fresh handsOn again W args (.bool true) W':=by
 have hold: ∀p∈before,(fun b=>decide (b<W.heap.size)) p.block=true:=fun p hp=>by simpa using hW.lt p hp
 have hlt: ∀p∈before,p.block<W.heap.size:=fun p hp=>hW.lt p hp
 obtain ⟨p,q,hA,hV,hpq,hz,hn⟩:=hW
 have hWw:DataW.Whole enc Tryz.prog f.params.toList s.vars apart W args.toList ds gs before:=⟨p,q,hA,hV,hpq,hz,hn⟩
 rw [hv] at hV
 obtain ⟨rfl,rfl⟩:=trodVars_none hV
 rw [List.append_nil] at hpq
 subst hpq
 have hargs: ∀sp:Nat->Bool,(∀x∈before,sp x.block=true)->DataW.TrodAll enc Tryz.prog W' 0 sp true f.params.toList args.toList ds before:=fun sp hsp=>
  yh6 (DataW.TrodAll.respare kids full hT hA hsp) fun x hx=>hb.same (hlt x hx)
 have hres: ∀(b:Nat) (sp:Nat->Bool) (hd:Bool),DataW.TrodAll enc Tryz.prog W' b sp hd f.resultTypes.toList ((Value.bool true).resultList f.resultTypes.size) [.lit (.bool true)] []:=fun b sp hd=>by
  rw [hr]
  exact trodAll_mk1 (shut_bool Tryz.underlying4 _)
 refine ⟨ds,[],before,[],before,[],hWw,?_,?_,?_,hb.frame _,fun _=>?_⟩
 ·rw [hs];exact hres _ _ _
 ·rw [hs];exact hargs _ hold
 ·rw [hv,hs];rfl
 ·refine ⟨?_,[.lit (.bool true)]++ds,[],[]++before,⟨[]++before,[],trodAll_append (hargs _ (fun _ _=>rfl)) (hres _ _ _),?_,by simp,?_,?_⟩,?_⟩
  ·exact ok_one hr (by rfl) (okWide_bool_mk Tryz.underlying4 _)
  ·rw [hv];rfl
  ·intro b off hp
   have hp':MemPlace.cell b off∈before:=by simpa using hp
   rw [hb.frozen (hlt _ hp')]
   exact hz b off hp'
  ·intro ha
   have:=hn ha
   simpa using this
  ·intro p hp _
   simpa using hp
end
end Go.Proofs.YtfgbnalnbdhimaaGreatDoor
set_option linter.unusedSimpArgs false
set_option linter.unusedVariables false
namespace Go.Proofs.YtfgbnalnbdhimaaGreatDoor
set_option maxRecDepth 100000
open Go Go.Joins Go.ChangeShapes Go.WideShapes Go.ChangeAt Go.WideMaps Go.WideElems Go.RowKit
theorem own:ownKnob Tryz.prog.godebug=none:=by kernel_rfl
def ylx:List (String×DataW Unit):=[("math/bits.deBruijn32tab",Rows.laid_math_bits_deBruijn32tab),("math/bits.deBruijn64tab",Rows.laid_math_bits_deBruijn64tab),("internal/strconv.uint64pow10",Rows.laid_internal_strconv_uint64pow10)]
theorem gPow:Tryz.prog.globalNamed "internal/strconv.uint64pow10" =some 2:=by kernel_rfl
theorem tPow:(Tryz.prog.globals[2]?).map (·.type)=some 167:=by kernel_rfl
theorem yp6 {W:World} (h:laidMetH Tryz.prog ylx W):Good W:=by
 rw [MakeChecks.laidMetH_plain _ _ _ (by kernel_rfl)] at h
 obtain ⟨ps,⟨g0,t0,cs0,f0,p0,q0,hg0,ht0,hv0,hd0,⟨g1,t1,cs1,f1,p1,q1,hg1,ht1,hv1,hd1,⟨g2,t2,cs2,f2,p2,q2,hg2,ht2,hv2,hd2,_,_⟩,_⟩,_⟩,_,_⟩:=h
 obtain rfl:=Option.some.inj (gPow.symm.trans hg2)
 obtain rfl:=Option.some.inj (tPow.symm.trans ht2)
 have e:(Rows.laid_internal_strconv_uint64pow10:DataW Unit)=Lib.tabData .u64 Lib.pow10Tab:=by rfl
 rw [e] at hd2
 unfold Good Lib.TabIs
 rw [hv2,←Lib.cells_of_tab Tryz.underlying167 Tryz.underlying95 (by kernel_rfl) (by kernel_rfl) hd2]
theorem y0v (os:Os) (args:Array Value):laidMetH Tryz.prog ylx ((World.doorLaid Tryz.prog 400 os).forCall (fun _ _=>0) ⟨#[],args,[]⟩).memory:=
 laidMetH_of_parts3 (fuel:=8) (laidMet_of_run' 8 (by kernel_rfl) (by kernel_rfl)) (by kernel_rfl) (by kernel_rfl)
end Go.Proofs.YtfgbnalnbdhimaaGreatDoor
set_option linter.unusedSimpArgs false
set_option linter.unusedVariables false
namespace Go.Proofs.YtfgbnalnbdhimaaGreatDoor
open Go Go.Joins Go.ChangeShapes Go.WideShapes Go.ChangeAt Go.WideMaps Go.WideElems Go.RowKit
set_option maxRecDepth 100000
section
variable {H:Type} {enc:TypeId×Value->H}
theorem yuw {w:World} {r:Reach} {b0 t:Nat} {v:Value} (hu: ∀fs,Tryz.prog.underlying t≠some (.struct fs)) (ha: ∀n e,Tryz.prog.underlying t≠some (.array n e)) (hv:Value.okWide Tryz.prog w r b0 t v):v.cells.toList=[v]:=by
 unfold Value.okWide at hv
 split at hv
 ·exact absurd ‹_› (hu _)
 ·exact absurd ‹_› (ha _ _)
 ·unfold Cell.okWide at hv
  cases v<;>first|rfl|(exfalso;split at hv<;>simp_all [Cell.ok])
end
end Go.Proofs.YtfgbnalnbdhimaaGreatDoor
set_option linter.unusedSimpArgs false
set_option linter.unusedVariables false
namespace Go.Proofs.YtfgbnalnbdhimaaGreatDoor
open Go Go.Joins Go.ChangeShapes Go.WideShapes Go.ChangeAt Go.WideMaps Go.WideElems Go.RowKit
set_option maxRecDepth 100000
section
variable {H:Type} {enc:TypeId×Value->H}
theorem y5x {w:World} {r:Reach} {b0:Nat} {v:Value} {d:DataW H} {p:List MemPlace} (hv:Value.okWide Tryz.prog w r b0 22 v) (h:DataW.Trod enc Tryz.prog w 0 (fun _=>true) true 22 v d p):
  ∃(n:Nat) (zs:List Int),zs.length=n*3/\VR w (fun _=>False) ρ0 (fun _=>False) v (.ro 3 n (.ints zs)):=by
 obtain ⟨fuel,hf⟩:=h
 rw [yuw (fun fs=>by rw [Tryz.underlying22];simp) (fun n e=>by rw [Tryz.underlying22];simp) hv] at hf
 have c3:Tryz.prog.cellsOf 28=3:=by kernel_rfl
 rcases DataW.trod_slice Tryz.underlying22 hf with ⟨hc,_⟩|⟨a,len,cap,elems,rest,m,_,hc,_,_,hl,_,hel,hget,_⟩
 ·simp only [List.cons.injEq,and_true] at hc
  subst hc
  exact ⟨0,[],rfl, .ro 3 0 (.ints []) none 0 (fun _=>undef) rfl (Nat.le_refl _) (by decide) (fun h=>absurd h (by decide)) (fun j hj=>by simp [Cs.len] at hj)⟩
 ·simp only [List.cons.injEq,and_true] at hc
  subst hc
  have key: ∀i,i<len-> ∃z:Nat->Int,∀j,j<3->w.cell? (a.add (i*3+j))=some (.int .i64 (z j)):=fun i hi=>by
   have h1:=hget i hi
   rw [c3,List.getElem?_eq_getElem (by omega)] at h1
   obtain ⟨cs,h2,h3⟩:=Option.bind_eq_some_iff.1 h1
   obtain ⟨_,h4,h5⟩:=World.cells?_some h2
   match cs,h4 with
   |[x0,x1,x2],_=>
    obtain ⟨y0,y1,y2,n,_,g0,g1,g2⟩:=trod_array3 Tryz.underlying28 (by kernel_rfl) h3
    obtain ⟨k0,e0,_⟩:=DataW.trod_int Tryz.underlying3 g0
    obtain ⟨k1,e1,_⟩:=DataW.trod_int Tryz.underlying3 g1
    obtain ⟨k2,e2,_⟩:=DataW.trod_int Tryz.underlying3 g2
    simp only [List.cons.injEq,and_true] at e0 e1 e2
    subst e0 e1 e2
    refine ⟨fun j=>if j=0 then k0 else if j=1 then k1 else k2,fun j hj=>?_⟩
    rw [←yb8,h5 j hj]
    match j,hj with
    |0,_=>rfl
    |1,_=>rfl
    |2,_=>rfl
  obtain ⟨Z,hZ⟩:=Deep.choose_lt (α:=Nat->Int) (p:=fun i z=> ∀j,j<3->w.cell? (a.add (i*3+j))=some (.int .i64 (z j))) key
  have cell: ∀j,j<len*3->w.cell? (a.add j)=some (.int .i64 (Z (j/3) (j % 3))):=fun j hj=>by
   have:=hZ (j/3) (by omega) (j % 3) (by omega)
   rwa [show j/3*3+j % 3=j by omega] at this
  refine ⟨len,(List.range (len*3)).map fun j=>Z (j/3) (j % 3),by simp, .ro 3 len (.ints _) (some a) cap (fun j=> .int .i64 (Z (j/3) (j % 3))) (by simp [Cs.len]) hl (by decide) (fun h0=>⟨a,rfl,?_,fun h=>h,fun j hj=>?_⟩) fun j hj=>?_⟩
  ·have h1:=cell 0 (by omega)
   unfold World.cell? at h1
   rw [show (a.add 0)=a from rfl] at h1
   split at h1
   ·rename_i hb;exact (Array.getElem?_eq_some_iff.1 hb).1
   ·cases h1
  ·exact cell j (by simpa [Cs.len] using hj)
  ·have hj':j<len*3:=by simpa [Cs.len] using hj
   simp only [Cs.get]
   rw [show ((List.range (len*3)).map fun j=>Z (j/3) (j % 3)).getD j 0=Z (j/3) (j % 3) by simp [List.getD_eq_getElem?_getD,hj']]
   exact .int _ _
end
end Go.Proofs.YtfgbnalnbdhimaaGreatDoor
set_option linter.unusedSimpArgs false
set_option linter.unusedVariables false
namespace Go.Proofs.YtfgbnalnbdhimaaGreatDoor
open Go Go.RowKit
theorem y7q {x:AV} (h:p1 x=true):p2 x=true:=by cases x<;>first|rfl|cases h
theorem y7r {x:AV} (h:p1 x=true):p3 x=true:=by cases x<;>first|rfl|cases h
theorem y7s {x:AV} (H:Hp) (h:p1 x=true):s1 H x=true:=by cases x<;>first|rfl|cases h
theorem y7t {x:AV} (H:Hp) (h:p1 x=true):s2 H x=true:=by cases x<;>first|rfl|cases h
theorem y3z {x:AV} (H:Hp) (n:Nat) (h:p1 x=true):snap H (n+1) x=x:=by cases x<;>first|rfl|cases h
theorem y0w {x:AV} (H:Hp) (n:Nat) (h:p1 x=true):yan H (n+1) x:=by cases x<;>first|trivial|cases h
theorem y5y {x:AV} (H:Hp) (n:Nat) (h:p1 x=true):frzV H (n+1) x=x:=by cases x<;>first|rfl|cases h
theorem y30 {x:AV} (H:Hp) (n:Nat) (h:p1 x=true):frzP H (n+1) x:=by cases x<;>first|trivial|cases h
theorem y7u {x:AV} (id:Nat) (h:p1 x=true):n1 id x=true:=by cases x<;>first|rfl|cases h
section
variable {c:List AV} (h:c.all p1=true)
include h
theorem ybu:c.all p2=true:=List.all_eq_true.2 fun x hx=>y7q (List.all_eq_true.1 h x hx)
theorem ybj:c.all p3=true:=List.all_eq_true.2 fun x hx=>y7r (List.all_eq_true.1 h x hx)
theorem ybv (H:Hp):c.all (s1 H)=true:=List.all_eq_true.2 fun x hx=>y7s H (List.all_eq_true.1 h x hx)
theorem ybe (H:Hp):c.all (s2 H)=true:=List.all_eq_true.2 fun x hx=>y7t H (List.all_eq_true.1 h x hx)
theorem ybw (i:Nat):c.all (n1 i)=true:=List.all_eq_true.2 fun x hx=>y7u i (List.all_eq_true.1 h x hx)
theorem yay (H:Hp) (n:Nat):c.map (snap H (n+1))=c:=by
 conv=>rhs;rw [←List.map_id c]
 exact List.map_congr_left fun x hx=>y3z H n (List.all_eq_true.1 h x hx)
theorem yas (H:Hp) (n:Nat):(∀x∈c,yan H (n+1) x)=True:=eq_true fun x hx=>y0w H n (List.all_eq_true.1 h x hx)
theorem ya5 (H:Hp) (n:Nat):c.map (frzV H (n+1))=c:=by
 conv=>rhs;rw [←List.map_id c]
 exact List.map_congr_left fun x hx=>y5y H n (List.all_eq_true.1 h x hx)
theorem yaz (H:Hp) (n:Nat):(∀x∈c,frzP H (n+1) x)=True:=eq_true fun x hx=>y30 H n (List.all_eq_true.1 h x hx)
end
end Go.Proofs.YtfgbnalnbdhimaaGreatDoor
namespace Go.Proofs.YtfgbnalnbdhimaaGreatDoor
open Go Go.RowKit
def swI (i j n:Nat):Nat:=if n=i then j else if n=j then i else n
theorem yd4 (i j n:Nat):swI i j (swI i j n)=n:=by
 unfold swI
 by_cases h1:n=i
 ·rw [if_pos h1]
  by_cases h2:j=i
  ·rw [if_pos h2];omega
  ·rw [if_neg h2,if_pos rfl];omega
 ·rw [if_neg h1]
  by_cases h2:n=j
  ·rw [if_pos h2,if_pos rfl];omega
  ·rw [if_neg h2,if_neg h1,if_neg h2]
def swV (i j:Nat):Nat->AV->AV
 |0,x=>if p1 x then x else .any
 |n+1,x=>match x with
  | .sl es id off len=> .sl es (swI i j id) off len
  | .ptr id off=> .ptr (swI i j id) off
  | .mp id=> .mp (swI i j id)
  | .agg xs=> .agg (xs.map (swV i j n))
  | .tup xs=> .tup (xs.map (swV i j n))
  | .fn f xs=> .fn f (xs.map (swV i j n))
  |x=>x
def swO (i j:Nat):AObj->AObj
 | .cells t (.lst l)=> .cells t (.lst (l.map (swV i j 4)))
 | .imap t l=> .imap t (l.map fun q=>(q.1,swV i j 4 q.2))
 | .gmap t ck l=> .gmap t ck (l.map fun q=>(q.1,q.2.1,swV i j 4 q.2.2))
 | .iter m s sn la=> .iter (swI i j m) s sn la
 |o=>o
def swH (i j:Nat):Hp->Hp
 |[]=>[]
 |(k,o)::r=>(swI i j k,swO i j o)::swH i j r
def swF (i j:Nat):Fr->Fr
 |[]=>[]
 |(t,x)::r=>(t,swV i j 4 x)::swF i j r
theorem yhu (i j:Nat): ∀(H:Hp) (k:Nat),hget (swH i j H) (swI i j k)=(hget H k).map (swO i j)
 |[],k=>rfl
 |(n,o)::r,k=>by
  simp only [swH,hget]
  by_cases e:n=k
  ·subst e;simp
  ·have: ¬swI i j n=swI i j k:=fun h=>e (by have:=congrArg (swI i j) h;rwa [yd4,yd4] at this)
   rw [if_neg this,if_neg e];exact yhu i j r k
theorem yxl (i j:Nat) (H:Hp) (k:Nat):hget (swH i j H) k=(hget H (swI i j k)).map (swO i j):=by
 have:=yhu i j H (swI i j k);rwa [yd4] at this
theorem yp7 (i j:Nat): ∀(fr:Fr) (t:Nat),fget (swF i j fr) t=swV i j 4 (fget fr t)
 |[],t=>rfl
 |(s,x)::r,t=>by
  simp only [swF,fget]
  split
  ·rfl
  ·exact yp7 i j r t
theorem yf4 (i j:Nat) (o:AObj):(swO i j o).live=o.live:=by unfold swO;split<;>rfl
theorem y1t {w:World} {M:Nat->Prop} {ρ ρ':Nat->Addr} {D D':Nat->Prop} {i j:Nat} (hD: ∀k,D k->D' (swI i j k)/\ρ' (swI i j k)=ρ k): ∀(n:Nat) (v:Value) (x:AV),VR w M ρ D v x->VR w M ρ' D' v (swV i j n x):=by
 intro n
 induction n with
 |zero=>
  intro v x hv
  simp only [swV]
  split
  ·rename_i hp;exact hv.pure1 hp
  ·exact .any _
 |succ n ih=>
  intro v x hv
  cases hv with
  |any v=>exact .any _
  |int k m=>exact .int _ _
  |bool b=>exact .bool _
  |str s=>exact .str _
  |nils=>exact .nils
  |mp id hd=>obtain ⟨h1,h2⟩:=hD id hd;simp only [swV];rw [←h2];exact .mp _ h1
  |ro es len c ad cap x hl hc he h0 hv=>exact VR.pure1 (VR.ro (D:=D) es len c ad cap x hl hc he h0 hv) rfl
  |rp c off b x hb hm hj hv=>exact VR.pure1 (VR.rp (D:=D) c off b x hb hm hj hv) rfl
  |ptr id off hd=>obtain ⟨h1,h2⟩:=hD id hd;simp only [swV];rw [←h2];exact .ptr _ _ h1
  |sl es id off len cap hd hc arr t ad ha hb hr=>
   obtain ⟨h1,h2⟩:=hD id hd
   exact .sl es (swI i j id) off len cap h1 hc arr t ad (fun h=>by rw [h2];exact ha h) (by rw [h2];exact hb) (by rw [h2];exact hr)
  |agg vs xs hl hx=>
   simp only [swV]
   refine .agg vs _ (by simp [hl]) fun k u y hu hy=>?_
   simp only [List.getElem?_map] at hy
   obtain ⟨y',g1,rfl⟩:=Option.map_eq_some_iff.1 hy
   exact ih u y' (hx k u y' hu g1)
  |tup vs xs hl hx=>
   simp only [swV]
   refine .tup vs _ (by simp [hl]) fun k u y hu hy=>?_
   simp only [List.getElem?_map] at hy
   obtain ⟨y',g1,rfl⟩:=Option.map_eq_some_iff.1 hy
   exact ih u y' (hx k u y' hu g1)
  |fn f vs xs hl hx=>
   simp only [swV]
   refine .fn f vs _ (by simp [hl]) fun k u y hu hy=>?_
   simp only [List.getElem?_map] at hy
   obtain ⟨y',g1,rfl⟩:=Option.map_eq_some_iff.1 hy
   exact ih u y' (hx k u y' hu g1)
theorem y31 {w:World} {M:Nat->Prop} {ρ ρ':Nat->Addr} {D D':Nat->Prop} {i j:Nat} (hD: ∀k,D k->D' (swI i j k)/\ρ' (swI i j k)=ρ k) {k:Nat} {o:AObj} (hi:D k) (h:ObjR w M ρ D k o):ObjR w M ρ' D' (swI i j k) (swO i j o):=by
 have hr:=y1t (w:=w) (M:=M) (ρ':=ρ') (D':=D') hD
 have he:=(hD k hi).2
 cases o with
 |gone=>trivial
 |cells t c=>
  obtain ⟨e1,arr,e2,e3,e4⟩:=h
  cases c with
  |ints l=>exact ⟨by rw [he];exact e1,arr,by rw [he];exact e2,by rw [he];exact e3,fun j hj=>let ⟨u,hu,hx⟩:=e4 j hj;⟨u,by rw [he];exact hu,hx.pure1 rfl⟩⟩
  |bools l=>exact ⟨by rw [he];exact e1,arr,by rw [he];exact e2,by rw [he];exact e3,fun j hj=>let ⟨u,hu,hx⟩:=e4 j hj;⟨u,by rw [he];exact hu,hx.pure1 rfl⟩⟩
  |lst l=>
   refine ⟨by rw [he];exact e1,arr,by rw [he];exact e2,by rw [he];simpa [swO,Cs.len] using e3,fun n hj=>?_⟩
   simp only [Cs.len,List.length_map] at hj
   obtain ⟨u,hu,hx⟩:=e4 n hj
   refine ⟨u,by rw [he];exact hu,?_⟩
   simp only [Cs.get,List.getD_eq_getElem?_getD,List.getElem?_eq_getElem hj,Option.getD_some] at hx
   have:=hr 4 u _ hx
   simpa [Cs.get,hj] using this
 |fmap t c=>
  obtain ⟨k0,es,ck,k1,k2⟩:=h
  exact ⟨k0,es,ck,by rw [he];exact k1,k2⟩
 |gmap t ck l=>
  obtain ⟨es,k1,k2,k3⟩:=h
  refine ⟨es,by rw [he];exact k1,by simpa using k2,fun j e q h1 h2=>?_⟩
  simp only [List.getElem?_map] at h2
  obtain ⟨q',g1,g2⟩:=Option.map_eq_some_iff.1 h2
  cases g2
  obtain ⟨g3,g4,g5⟩:=k3 j e q' h1 g1
  exact ⟨g3,g4,hr 4 _ _ g5⟩
 |iter mid s sn la=>
  obtain ⟨k1,k2,k3⟩:=h
  obtain ⟨d1,d2⟩:=hD mid k1
  exact ⟨d1,by rw [he];exact k2,by rw [he,d2];exact k3⟩
 |imap t l=>
  obtain ⟨k0,es,ck,k1,k2,k3⟩:=h
  refine ⟨fun k x hx=>?_,es,ck,by rw [he];exact k1,by simpa using k2,fun j e k x h1 h2=>?_⟩
  ·obtain ⟨q,g1,g2⟩:=List.mem_map.1 hx
   cases g2
   have:=k0 q.1 q.2 g1
   cases hq:q.2<;>rw [hq] at this<;>first|(cases this;done)|rfl
  simp only [List.getElem?_map] at h2
  obtain ⟨q,g1,g2⟩:=Option.map_eq_some_iff.1 h2
  cases g2
  obtain ⟨g3,g4,g5⟩:=k3 j e q.1 q.2 h1 g1
  exact ⟨g3,hr 4 _ _ g4,g5⟩
section
variable {B:Nat} {w0:ybi} {Mx:Nat->Prop} {N:Nat} {w:World} {ρ:Nat->Addr} {fr:Fr} {H:Hp} {a:Act}
theorem Sim.swap (h:Sim B w0 Mx N w ρ fr H a) (i j:Nat):Sim B w0 Mx N w (fun k=>ρ (swI i j k)) (swF i j fr) (swH i j H) a:=by
 have hg: ∀k o,hget (swH i j H) k=some o-> ∃o',hget H (swI i j k)=some o'/\o=swO i j o':=fun k o hk=>by
  rw [yxl] at hk
  obtain ⟨o',h1,h2⟩:=Option.map_eq_some_iff.1 hk
  exact ⟨o',h1,h2.symm⟩
 have hM:MM Mx (swH i j H) (fun k=>ρ (swI i j k))=MM Mx H ρ:=by
  funext b
  apply propext
  constructor
  ·rintro (g|⟨id,o,g1,g2,g3⟩)
   ·exact .inl g
   ·obtain ⟨o',k1,rfl⟩:=hg id o g1
    exact .inr ⟨_,o',k1,by rw [yf4] at g2;exact g2,g3⟩
  ·rintro (g|⟨id,o,g1,g2,g3⟩)
   ·exact .inl g
   ·exact .inr ⟨swI i j id,swO i j o,by rw [yhu,g1];rfl,by rw [yf4];exact g2,by show (ρ (swI i j (swI i j id))).block=b;rw [yd4];exact g3⟩
 have hD: ∀k,DD H k->DD (swH i j H) (swI i j k)/\(fun k=>ρ (swI i j k)) (swI i j k)=ρ k:=fun k ⟨o,ho⟩=>⟨⟨swO i j o,by rw [yhu,ho];rfl⟩,by show ρ (swI i j (swI i j k))=ρ k;rw [yd4]⟩
 refine ⟨h.below,h.hB,h.mx,fun id o ho hl=>?_,fun id o ho=>?_,fun id o id' o' ho hl ho' hl' e=>?_,fun t=>?_,h.defers,h.size⟩
 ·obtain ⟨o',k1,rfl⟩:=hg id o ho
  exact h.own _ o' k1 (by rw [yf4] at hl;exact hl)
 ·obtain ⟨o',k1,rfl⟩:=hg id o ho
  have:=y31 (w:=w) (M:=MM Mx H ρ) (ρ':=fun k=>ρ (swI i j k)) hD ⟨o',k1⟩ (h.objs _ o' k1)
  rw [yd4] at this
  rw [hM];exact this
 ·obtain ⟨q,k1,rfl⟩:=hg id o ho
  obtain ⟨q',k1',rfl⟩:=hg id' o' ho'
  have:=h.inj _ q _ q' k1 (by rw [yf4] at hl;exact hl) k1' (by rw [yf4] at hl';exact hl') e
  have:=congrArg (swI i j) this
  rwa [yd4,yd4] at this
 ·rw [hM,yp7]
  exact y1t hD 4 _ _ (h.frv t)
end
theorem Wk.swap (i j:Nat) (fr:Fr) (H:Hp):Wk fr H (swF i j fr) (swH i j H):=fun _ _ _ _ _ ρ _ hs=>⟨fun k=>ρ (swI i j k),hs.swap i j⟩
theorem Wk.subS (i j:Nat) {fr fr' fr1:Fr} {H H' H1:Hp} (e1:swF i j fr'=fr1) (e2:swH i j H'=H1) (e3:swF i j fr1=fr') (e4:swH i j H1=H') (hf:subF fr H1 fr1) (hh:subH H H1 H1):Wk fr H fr' H':=by
 have:=(Wk.sub hf hh).trans (Wk.swap i j fr1 H1)
 rwa [e3,e4] at this
attribute [go_sem] swI swV swO swH swF
end Go.Proofs.YtfgbnalnbdhimaaGreatDoor
set_option linter.unusedSimpArgs false
set_option linter.unusedVariables false
namespace Go.Proofs.YtfgbnalnbdhimaaGreatDoor
open Go Go.RowKit
set_option maxRecDepth 100000
set_option maxHeartbeats 4000000
def tmC (p:List (Int×Int)):List AV:=p.flatMap fun t=>[I t.1,I t.2]
abbrev tmA (p:List (Int×Int)):AV:= .ro 2 p.length (.lst (tmC p))
abbrev plA (b:Bool) (p:List (Int×Int)):AV:= .agg [.bool b,tmA p]
attribute [go_sem] tmA plA
theorem ya9 (p:List (Int×Int)):(tmC p).length=2*p.length:=by
 unfold tmC;induction p with
 |nil=>rfl
 |cons x p ih=>simp [ih];omega
theorem yux (p q:List (Int×Int)):tmC (p++q)=tmC p++tmC q:=by simp [tmC]
theorem ybr (p:List (Int×Int)) (i:Nat) (h:i<p.length):(tmC p).getD (i*2) .any=I (p.getD i (0,0)).1:=by
 unfold tmC;induction p generalizing i with
 |nil=>simp at h
 |cons x p ih=>
  cases i with
  |zero=>simp
  |succ i=>
   have:=ih i (by simpa using h)
   simp only [List.flatMap_cons,List.getD_cons_succ]
   rw [show (i+1)*2=i*2+1+1 by omega]
   simpa using this
theorem yb5 (p:List (Int×Int)) (i:Nat) (h:i<p.length):(tmC p).getD (i*2+1) .any=I (p.getD i (0,0)).2:=by
 unfold tmC;induction p generalizing i with
 |nil=>simp at h
 |cons x p ih=>
  cases i with
  |zero=>simp
  |succ i=>
   have:=ih i (by simpa using h)
   simp only [List.flatMap_cons,List.getD_cons_succ]
   rw [show (i+1)*2+1=i*2+1+1+1 by omega]
   simpa using this
theorem yc9 (v l:Int) (h0:0<=l) (h1:l<=9000000000000000000):Fn Tryz.prog 25 [I v,I l] (.bool (fitB v l)):=by
 unfold fitB
 refine Fn.intro [.tmp 4] Tryz.func25 rfl rfl (by decide) (by simp [Tryz.ntmps25]) ?_;rw [Tryz.ntmps25]
 repeat' (first|omega|(try apply yaa);simp only [go_sem]|apply yab<;>(intro h_;(try simp only [h_]);revert h_)|apply And.intro|with_reducible intro h_|trivial)
 all_goals simp_all
 all_goals omega
theorem yfm {p:List (Int×Int)} {x:AV} (h:x∈tmC p): ∃n,x=I n:=by
 unfold tmC at h
 obtain ⟨t,_,ht⟩:=List.mem_flatMap.1 h
 simp only [List.mem_cons,List.not_mem_nil,or_false] at ht
 rcases ht with e|e<;>exact ⟨_,e⟩
theorem yly (p:List (Int×Int)):(tmC p).all p1=true:=List.all_eq_true.2 fun x hx=>by obtain ⟨n,rfl⟩:=yfm hx;rfl
theorem yac (H:Hp) (p:List (Int×Int)):(tmC p).all (s3 H)=true:=List.all_eq_true.2 fun x hx=>by obtain ⟨n,rfl⟩:=yfm hx;rfl
theorem y5z (p:List (Int×Int)):(tmC p).all ycd=true:=List.all_eq_true.2 fun x hx=>by obtain ⟨n,rfl⟩:=yfm hx;rfl
theorem ysx (i:Nat) (p:List (Int×Int)):(tmC p).map (cutV i)=tmC p:=by
 conv=>rhs;rw [←List.map_id (tmC p)]
 exact List.map_congr_left fun x hx=>by obtain ⟨n,rfl⟩:=yfm hx;rfl
theorem yf5 (H:Hp) (n:Nat) (p:List (Int×Int)):(tmC p).map (snap H (n+1))=tmC p:=yay (yly p) H n
theorem ye2 (H:Hp) (n:Nat) (p:List (Int×Int)):(∀x∈tmC p,yan H (n+1) x)=True:=yas (yly p) H n
theorem y32 (H:Hp) (n:Nat) (p:List (Int×Int)):(tmC p).map (frzV H (n+1))=tmC p:=ya5 (yly p) H n
theorem y0x (H:Hp) (n:Nat) (p:List (Int×Int)):(∀x∈tmC p,frzP H (n+1) x)=True:=yaz (yly p) H n
theorem yf6 (p:List (Int×Int)) (e c:Int):tmC p++[AV.int .i64 e,AV.int .i64 c]=tmC (p++[(e,c)]):=by simp [tmC]
attribute [go_sem] yac y5z ysx yf5 ye2 y32 y0x ya9
theorem y0y (fr:Fr):unl (lft fr)=fr:=by
 induction fr with
 |nil=>rfl
 |cons q r ih=>
  obtain ⟨t,x⟩:=q
  simp only [lft,unl]
  rw [if_pos (by omega),ih,Nat.add_sub_cancel]
theorem y0z (i:Nat) (fr:Fr):fcut i (lft fr)=lft (fcut i fr):=by
 induction fr with
 |nil=>rfl
 |cons q r ih=>obtain ⟨t,x⟩:=q;simp only [lft,fcut,ih]
attribute [go_sem] y0y y0z
theorem yda {p:List (Int×Int)} (h:yd8 p) {i:Nat} (hi:i<p.length): -1125899906842624<=(p.getD i (0,0)).2/\(p.getD i (0,0)).2<=1125899906842624:=h _ (by simp [hi])
end Go.Proofs.YtfgbnalnbdhimaaGreatDoor
set_option linter.unusedSimpArgs false
set_option linter.unusedVariables false
namespace Go.Proofs.YtfgbnalnbdhimaaGreatDoor
open Go Go.RowKit
set_option maxRecDepth 100000
set_option maxHeartbeats 4000000
abbrev cmbH (g:Nat) (p q acc:List (Int×Int)) (fits:Bool):Hp:=[(6, .cells 4 (.lst [.bool fits])),(5, .cells 32 (.lst [.bool false, .sl 2 4 0 acc.length])),(4, .cells 57 (.lst (tmC acc))),(3, .cells 32 (.lst [.bool false, .nils])),(2, .cells 59 (.lst [.fn g []])),(1, .cells 32 (.lst [.bool false,tmA q])),(0, .cells 32 (.lst [.bool false,tmA p]))]
theorem yf7 (fr:Fr) (K:AV->Fr->Hp->Prop) (g:Nat) (p q acc:List (Int×Int)) (fits:Bool) (e a b c:Int) (hg:Fn Tryz.prog g [I a,I b] (I c)) (hl:acc.length<=1000000)
  (hk0:c=0->K (.tup []) fr (cmbH g p q acc (fits&&fitB c 1125899906842624))) (hk1:c≠0->K (.tup []) (fcut 4 fr) [(4, .cells 57 (.lst (tmC (acc++[(e,c)])))),(7, .cells 57 (.lst [I e,I c])),(6, .cells 4 (.lst [.bool (fits&&fitB c 1125899906842624)])),(5, .cells 32 (.lst [.bool false, .sl 2 4 0 (acc.length+1)])),(3, .cells 32 (.lst [.bool false, .nils])),(2, .cells 59 (.lst [.fn g []])),(1, .cells 32 (.lst [.bool false,tmA q])),(0, .cells 32 (.lst [.bool false,tmA p]))]):yba Tryz.prog 63 [I e,I a,I b, .ptr 2 0, .ptr 6 0, .ptr 5 0] fr (cmbH g p q acc fits) K:=by
 unfold cmbH at*
 have hw:=yc9 c 1125899906842624 (by omega) (by omega)
 refine yba.intro [] Tryz.func63 rfl rfl (by decide) (by simp [Tryz.ntmps63]) ?_;rw [Tryz.ntmps63]
 repeat' (first|omega|(try apply yaa);simp only [go_sem]|apply yab<;>(intro h_;(try simp only [h_]);revert h_)|apply And.intro|with_reducible intro h_|trivial)
 refine ⟨yae.fn rfl hg ?_⟩
 cases fits
 ·repeat' (first|omega|(try apply yaa);simp only [go_sem]|apply yab<;>(intro h_;(try simp only [h_]);revert h_)|apply And.intro|with_reducible intro h_|trivial)
  ·rw [yf6];exact hk1 (by assumption)
  ·exact hk0 (by assumption)
 ·repeat' (first|omega|(try apply yaa);simp only [go_sem]|apply yab<;>(intro h_;(try simp only [h_]);revert h_)|apply And.intro|with_reducible intro h_|trivial)
  refine ⟨yae.fn rfl hw ?_⟩
  repeat' (first|omega|(try apply yaa);simp only [go_sem]|apply yab<;>(intro h_;(try simp only [h_]);revert h_)|apply And.intro|with_reducible intro h_|trivial)
  ·rw [yf6];exact hk1 (by assumption)
  ·exact hk0 (by assumption)
theorem yos {f:Int->Int->Int} {p q:List (Int×Int)} {i j:Nat} (hi:i<p.length) (h:j=q.length\/(p.getD i (0,0)).1<(q.getD j (0,0)).1) (hj:j<=q.length):mrg f (p.drop i) (q.drop j)=((p.getD i (0,0)).1,f (p.getD i (0,0)).2 0)::mrg f (p.drop (i+1)) (q.drop j):=by
 rw [List.drop_eq_getElem_cons hi]
 have e:p.getD i (0,0)=p[i]:=by simp [hi]
 rw [e] at h⊢
 rcases Nat.lt_or_ge j q.length with g|g
 ·rw [List.drop_eq_getElem_cons g]
  have e2:q.getD j (0,0)=q[j]:=by simp [g]
  rw [e2] at h
  conv=>lhs;unfold mrg
  rw [if_pos (by omega)]
 ·rw [List.drop_of_length_le g]
  conv=>lhs;unfold mrg
theorem yot {f:Int->Int->Int} {p q:List (Int×Int)} {i j:Nat} (hj:j<q.length) (h:i=p.length\/(q.getD j (0,0)).1<(p.getD i (0,0)).1) (hi:i<=p.length):mrg f (p.drop i) (q.drop j)=((q.getD j (0,0)).1,f 0 (q.getD j (0,0)).2)::mrg f (p.drop i) (q.drop (j+1)):=by
 rw [List.drop_eq_getElem_cons hj]
 have e:q.getD j (0,0)=q[j]:=by simp [hj]
 rw [e] at h⊢
 rcases Nat.lt_or_ge i p.length with g|g
 ·rw [List.drop_eq_getElem_cons g]
  have e2:p.getD i (0,0)=p[i]:=by simp [g]
  rw [e2] at h
  conv=>lhs;unfold mrg
  rw [if_neg (by omega),if_pos (by omega)]
 ·rw [List.drop_of_length_le g]
  conv=>lhs;unfold mrg
theorem yxm {f:Int->Int->Int} {p q:List (Int×Int)} {i j:Nat} (hi:i<p.length) (hj:j<q.length) (h:(q.getD j (0,0)).1=(p.getD i (0,0)).1):mrg f (p.drop i) (q.drop j)=((p.getD i (0,0)).1,f (p.getD i (0,0)).2 (q.getD j (0,0)).2)::mrg f (p.drop (i+1)) (q.drop (j+1)):=by
 rw [List.drop_eq_getElem_cons hi,List.drop_eq_getElem_cons hj]
 have e:p.getD i (0,0)=p[i]:=by simp [hi]
 have e2:q.getD j (0,0)=q[j]:=by simp [hj]
 rw [e,e2] at h⊢
 conv=>lhs;unfold mrg
 rw [if_neg (by omega),if_neg (by omega)]
theorem yf8 {c e:Int} (l:List (Int×Int)) (h:c=0):nz (l++[(e,c)])=nz l:=by unfold nz;rw [List.filter_append];simp [h]
theorem yf9 {c e:Int} (l:List (Int×Int)) (h:c≠0):nz (l++[(e,c)])=nz l++[(e,c)]:=by unfold nz;rw [List.filter_append];simp [h]
theorem yb1 (l:List (Int×Int)) (e c:Int):ycj (l++[(e,c)])=(ycj l&&fitB c 1125899906842624):=by unfold ycj;simp
end Go.Proofs.YtfgbnalnbdhimaaGreatDoor
set_option linter.unusedSimpArgs false
set_option linter.unusedVariables false
namespace Go.Proofs.YtfgbnalnbdhimaaGreatDoor
open Go Go.RowKit
set_option maxRecDepth 100000
set_option maxHeartbeats 16000000
def y50:TbA:=[(11,[[67,68,69],[66],[66],[66],[],[],[73,74,75],[72],[72],[72],[],[],[80,84,85,86,87,88,89],[80,84,85,86,87,88,89],[78,79,84,85,86,87,88,89],[84,85,86,87,88,89],[84,85,86,87,88,89],[84,85,86,87,88,89],[78,79,80,81,82,83,86],[78,79,80,81,82,83,86],[78,79,80,81,82,83,84,85],[78,79,80,81,82,83],[78,79,80,81,82,83],[78,79,80,81,82,83],[],[],[],[]],[[],[0],[0],[0],[],[],[],[6],[6],[6],[],[],[],[],[12,13],[],[],[],[12,13,14,15,16,17],[12,13,14,15,16,17],[12,13,14,15,16,17,18,19],[12,13,14,15,16,17],[12,13,14,15,16,17],[12,13,14,15,16,17],[],[],[],[]]),(12,[[94,95,96,97,98,99,100,101,102,103,104,105],[93,96,100,101,102,103,104,105],[93,96,100,101,102,103,104,105],[93,94,95,100,101,102,103,104,105],[93,100,101,102,103,104,105],[93,100,101,102,103,104,105],[93,100,101,102,103,104,105],[93,94,95,96,97,98,99,102],[93,94,95,96,97,98,99,102],[93,94,95,96,97,98,99,100,101],[93,94,95,96,97,98,99],[93,94,95,96,97,98,99],[93,94,95,96,97,98,99],[]],[[],[0],[0],[0,1,2],[0],[0],[0],[0,1,2,3,4,5,6],[0,1,2,3,4,5,6],[0,1,2,3,4,5,6,7,8],[0,1,2,3,4,5,6],[0,1,2,3,4,5,6],[0,1,2,3,4,5,6],[]]),(14,[[111,112,113],[110],[110],[110],[],[],[118,122,123,124,125,126,127],[118,122,123,124,125,126,127],[116,117,122,123,124,125,126,127],[122,123,124,125,126,127],[122,123,124,125,126,127],[122,123,124,125,126,127],[116,117,118,119,120,121,124],[116,117,118,119,120,121,124],[116,117,118,119,120,121,122,123],[116,117,118,119,120,121],[116,117,118,119,120,121],[116,117,118,119,120,121],[],[],[]],[[],[0],[0],[0],[],[],[],[],[6,7],[],[],[],[6,7,8,9,10,11],[6,7,8,9,10,11],[6,7,8,9,10,11,12,13],[6,7,8,9,10,11],[6,7,8,9,10,11],[6,7,8,9,10,11],[],[],[]]),(15,[[131,132,133,134,135,136,137,138,139,140,141,142],[130,133,137,138,139,140,141,142],[130,133,137,138,139,140,141,142],[130,131,132,137,138,139,140,141,142],[130,137,138,139,140,141,142],[130,137,138,139,140,141,142],[130,137,138,139,140,141,142],[130,131,132,133,134,135,136,139],[130,131,132,133,134,135,136,139],[130,131,132,133,134,135,136,137,138],[130,131,132,133,134,135,136],[130,131,132,133,134,135,136],[130,131,132,133,134,135,136],[]],[[],[0],[0],[0,1,2],[0],[0],[0],[0,1,2,3,4,5,6],[0,1,2,3,4,5,6],[0,1,2,3,4,5,6,7,8],[0,1,2,3,4,5,6],[0,1,2,3,4,5,6],[0,1,2,3,4,5,6],[]]),(8,[[42,43,44,45,46,47,48,49,50,51,52,53,54,55,56,57,58,59],[41,44,48,49,50,51,52,53,54,55,56,57,58,59],[41,44,48,49,50,51,52,53,54,55,56,57,58,59],[41,42,43,48,49,50,51,52,53,54,55,56,57,58,59],[41,48,49,50,51,52,53,54,55,56,57,58,59],[41,48,49,50,51,52,53,54,55,56,57,58,59],[41,48,49,50,51,52,53,54,55,56,57,58,59],[41,42,43,44,45,46,47,50,54,55,56,57,58,59],[41,42,43,44,45,46,47,50,54,55,56,57,58,59],[41,42,43,44,45,46,47,48,49,54,55,56,57,58,59],[41,42,43,44,45,46,47,54,55,56,57,58,59],[41,42,43,44,45,46,47,54,55,56,57,58,59],[41,42,43,44,45,46,47,54,55,56,57,58,59],[41,42,43,44,45,46,47,48,49,50,51,52,53,56],[41,42,43,44,45,46,47,48,49,50,51,52,53,56],[41,42,43,44,45,46,47,48,49,50,51,52,53,54,55],[41,42,43,44,45,46,47,48,49,50,51,52,53],[41,42,43,44,45,46,47,48,49,50,51,52,53],[41,42,43,44,45,46,47,48,49,50,51,52,53],[]],[[],[0],[0],[0,1,2],[0],[0],[0],[0,1,2,3,4,5,6],[0,1,2,3,4,5,6],[0,1,2,3,4,5,6,7,8],[0,1,2,3,4,5,6],[0,1,2,3,4,5,6],[0,1,2,3,4,5,6],[0,1,2,3,4,5,6,7,8,9,10,11,12],[0,1,2,3,4,5,6,7,8,9,10,11,12],[0,1,2,3,4,5,6,7,8,9,10,11,12,13,14],[0,1,2,3,4,5,6,7,8,9,10,11,12],[0,1,2,3,4,5,6,7,8,9,10,11,12],[0,1,2,3,4,5,6,7,8,9,10,11,12],[]])]
def ydb:TbA:=[(12,[[94,95,96,97,98,99,100,101,102,103,104,105],[93,96,100,101,102,103,104,105],[93,96,100,101,102,103,104,105],[93,94,95,100,101,102,103,104,105],[93,100,101,102,103,104,105],[93,100,101,102,103,104,105],[93,100,101,102,103,104,105],[93,94,95,96,97,98,99,102],[93,94,95,96,97,98,99,102],[93,94,95,96,97,98,99,100,101],[93,94,95,96,97,98,99],[93,94,95,96,97,98,99],[93,94,95,96,97,98,99],[]],[[],[0],[0],[0,1,2],[0],[0],[0],[0,1,2,3,4,5,6],[0,1,2,3,4,5,6],[0,1,2,3,4,5,6,7,8],[0,1,2,3,4,5,6],[0,1,2,3,4,5,6],[0,1,2,3,4,5,6],[]]),(15,[[131,132,133,134,135,136,137,138,139,140,141,142],[130,133,137,138,139,140,141,142],[130,133,137,138,139,140,141,142],[130,131,132,137,138,139,140,141,142],[130,137,138,139,140,141,142],[130,137,138,139,140,141,142],[130,137,138,139,140,141,142],[130,131,132,133,134,135,136,139],[130,131,132,133,134,135,136,139],[130,131,132,133,134,135,136,137,138],[130,131,132,133,134,135,136],[130,131,132,133,134,135,136],[130,131,132,133,134,135,136],[]],[[],[0],[0],[0,1,2],[0],[0],[0],[0,1,2,3,4,5,6],[0,1,2,3,4,5,6],[0,1,2,3,4,5,6,7,8],[0,1,2,3,4,5,6],[0,1,2,3,4,5,6],[0,1,2,3,4,5,6],[]]),(8,[[42,43,44,45,46,47,48,49,50,51,52,53,54,55,56,57,58,59],[41,44,48,49,50,51,52,53,54,55,56,57,58,59],[41,44,48,49,50,51,52,53,54,55,56,57,58,59],[41,42,43,48,49,50,51,52,53,54,55,56,57,58,59],[41,48,49,50,51,52,53,54,55,56,57,58,59],[41,48,49,50,51,52,53,54,55,56,57,58,59],[41,48,49,50,51,52,53,54,55,56,57,58,59],[41,42,43,44,45,46,47,50,54,55,56,57,58,59],[41,42,43,44,45,46,47,50,54,55,56,57,58,59],[41,42,43,44,45,46,47,48,49,54,55,56,57,58,59],[41,42,43,44,45,46,47,54,55,56,57,58,59],[41,42,43,44,45,46,47,54,55,56,57,58,59],[41,42,43,44,45,46,47,54,55,56,57,58,59],[41,42,43,44,45,46,47,48,49,50,51,52,53,56],[41,42,43,44,45,46,47,48,49,50,51,52,53,56],[41,42,43,44,45,46,47,48,49,50,51,52,53,54,55],[41,42,43,44,45,46,47,48,49,50,51,52,53],[41,42,43,44,45,46,47,48,49,50,51,52,53],[41,42,43,44,45,46,47,48,49,50,51,52,53],[]],[[],[0],[0],[0,1,2],[0],[0],[0],[0,1,2,3,4,5,6],[0,1,2,3,4,5,6],[0,1,2,3,4,5,6,7,8],[0,1,2,3,4,5,6],[0,1,2,3,4,5,6],[0,1,2,3,4,5,6],[0,1,2,3,4,5,6,7,8,9,10,11,12],[0,1,2,3,4,5,6,7,8,9,10,11,12],[0,1,2,3,4,5,6,7,8,9,10,11,12,13,14],[0,1,2,3,4,5,6,7,8,9,10,11,12],[0,1,2,3,4,5,6,7,8,9,10,11,12],[0,1,2,3,4,5,6,7,8,9,10,11,12],[]])]
def yit:TbA:=[(11,[[67,68,69],[66],[66],[66],[],[],[73,74,75],[72],[72],[72],[],[],[80,84,85,86,87,88,89],[80,84,85,86,87,88,89],[78,79,84,85,86,87,88,89],[84,85,86,87,88,89],[84,85,86,87,88,89],[84,85,86,87,88,89],[78,79,80,81,82,83,86],[78,79,80,81,82,83,86],[78,79,80,81,82,83,84,85],[78,79,80,81,82,83],[78,79,80,81,82,83],[78,79,80,81,82,83],[],[],[],[]],[[],[0],[0],[0],[],[],[],[6],[6],[6],[],[],[],[],[12,13],[],[],[],[12,13,14,15,16,17],[12,13,14,15,16,17],[12,13,14,15,16,17,18,19],[12,13,14,15,16,17],[12,13,14,15,16,17],[12,13,14,15,16,17],[],[],[],[]]),(14,[[111,112,113],[110],[110],[110],[],[],[118,122,123,124,125,126,127],[118,122,123,124,125,126,127],[116,117,122,123,124,125,126,127],[122,123,124,125,126,127],[122,123,124,125,126,127],[122,123,124,125,126,127],[116,117,118,119,120,121,124],[116,117,118,119,120,121,124],[116,117,118,119,120,121,122,123],[116,117,118,119,120,121],[116,117,118,119,120,121],[116,117,118,119,120,121],[],[],[]],[[],[0],[0],[0],[],[],[],[],[6,7],[],[],[],[6,7,8,9,10,11],[6,7,8,9,10,11],[6,7,8,9,10,11,12,13],[6,7,8,9,10,11],[6,7,8,9,10,11],[6,7,8,9,10,11],[],[],[]])]
theorem ylz (p q:List (Int×Int)) (g:Nat) (f:Int->Int->Int) (hp:yd8 p) (hq:yd8 q) (hpl:p.length<=500000) (hql:q.length<=500000) (hg: ∀a b:Int,-1125899906842624<=a->a<=1125899906842624-> -1125899906842624<=b->b<=1125899906842624->Fn Tryz.prog g [I a,I b] (I (f a b))):
  Fn Tryz.prog 26 [plA false p,plA false q, .fn g []] (if ycj (mrg f p q) then plA false (nz (mrg f p q)) else plA true []):=by
 refine Fn.introL [.cell 6 32] Tryz.func26 rfl rfl (by decide) (by simp [Tryz.ntmps26]) ?_;rw [Tryz.ntmps26]
 repeat' (first|omega|(first|apply yaa|refine tbN y50 ?_|refine tbL ydb ?_|skip);simp only [go_sem]|apply yab<;>(intro h_;(try simp only [h_]);revert h_)|apply And.intro|with_reducible intro h_|trivial)
 refine yai.intro (fun n fr H=> ∃(i j:Nat) (done:List (Int×Int)),i<=p.length/\j<=q.length/\n=(p.length-i)+(q.length-j)/\done.length<=i+j/\done++mrg f (p.drop i) (q.drop j)=mrg f p q/\fr=[(11,I j),(10,I i),(9, .fn 63 [.ptr 2 0, .ptr 6 0, .ptr 5 0]),(8, .ptr 6 0),(7, .ptr 5 0),(6, .ptr 3 0),(4, .ptr 1 0),(3, .ptr 0 0)]/\H=cmbH g p q (nz done) (ycj done)) ?_ ?_
 ·refine ⟨_,_,_,?_,0,0,[],by omega,by omega,rfl,by simp,rfl,rfl,rfl⟩
  unfold cmbH
  refine Wk.sub ?_ ?_<;>simp only [go_sem]
  all_goals simp [nz,ycj,tmC]
 rintro n fr H ⟨i,j,done,hi,hj,rfl,hdl,hdone,rfl,rfl⟩
 have hnl:(nz done).length<=1000000:=by have:=List.length_filter_le (fun t:Int×Int=>t.2 !=0) done;unfold nz;omega
 have t0:=fun h=>ybr p i h
 have t1:=fun h=>yb5 p i h
 have u0:=fun h=>ybr q j h
 have u1:=fun h=>yb5 q j h
 unfold cmbH
 by_cases hil:i<p.length
 ·have fp:=yda hp hil
  have t0:=t0 hil
  have t1:=t1 hil
  by_cases hjl:j<q.length
  ·have fq:=yda hq hjl
   have u0:=u0 hjl
   have u1:=u1 hjl
   by_cases he:(p.getD i (0,0)).1<(q.getD j (0,0)).1
   ·have bi:decide ((i:Int)<p.length)=true:=by simp;omega
    have bj:((j:Int)==q.length)=false:=by simp;omega
    have be1:decide ((p.getD i (0,0)).1<(q.getD j (0,0)).1)=true:=by exact decide_eq_true he
    repeat' (first|omega|(first|apply yaa|refine tbN yit ?_|refine tbL ydb ?_|refine tbN ydb ?_|skip);simp only [go_sem,t0,t1,u0,u1,bi,bj,be1]|apply yab<;>(intro h_;(try simp only [h_]);revert h_)|apply And.intro|with_reducible intro h_|trivial)
    refine ⟨yae.inline (yf7 _ _ g p q (nz done) (ycj done) (p.getD i (0,0)).1 (p.getD i (0,0)).2 0 _ (hg _ _ (by omega) (by omega) (by omega) (by omega)) hnl (fun h0=>?_) (fun h1=>?_))⟩
    ·repeat' (first|omega|(try apply yaa);simp only [go_sem]|apply yab<;>(intro h_;(try simp only [h_]);revert h_)|apply And.intro|with_reducible intro h_|trivial)
     refine ⟨_,_,_,?_,?_,⟨i+1,j,done++[((p.getD i (0,0)).1,f (p.getD i (0,0)).2 0)],by omega,by omega,rfl,by simp;omega,by rw [←hdone,yos hil (.inr he) hj];simp,rfl,rfl⟩⟩
     ·omega
     ·rw [yf8 done h0,yb1]
      refine Wk.sub ?_ ?_<;>(simp only [go_sem,List.length_append])
    ·repeat' (first|omega|(try apply yaa);simp only [go_sem]|apply yab<;>(intro h_;(try simp only [h_]);revert h_)|apply And.intro|with_reducible intro h_|trivial)
     refine ⟨_,_,_,?_,?_,⟨i+1,j,done++[((p.getD i (0,0)).1,f (p.getD i (0,0)).2 0)],by omega,by omega,rfl,by simp;omega,by rw [←hdone,yos hil (.inr he) hj];simp,rfl,rfl⟩⟩
     ·omega
     ·rw [yf9 done h1,yb1]
      refine Wk.sub ?_ ?_<;>(simp only [go_sem,List.length_append])
   ·by_cases he2:(q.getD j (0,0)).1<(p.getD i (0,0)).1
    ·have bi:decide ((i:Int)<p.length)=true:=by simp;omega
     have bin:((i:Int)==p.length)=false:=by simp;omega
     have bj:((j:Int)==q.length)=false:=by simp;omega
     have be1:decide ((p.getD i (0,0)).1<(q.getD j (0,0)).1)=false:=by exact decide_eq_false (by omega)
     have be2:decide ((q.getD j (0,0)).1<(p.getD i (0,0)).1)=true:=by exact decide_eq_true he2
     repeat' (first|omega|(first|apply yaa|refine tbN yit ?_|refine tbL ydb ?_|refine tbN ydb ?_|skip);simp only [go_sem,t0,t1,u0,u1,bi,bin,bj,be1,be2]|apply yab<;>(intro h_;(try simp only [h_]);revert h_)|apply And.intro|with_reducible intro h_|trivial)
     refine ⟨yae.inline (yf7 _ _ g p q (nz done) (ycj done) (q.getD j (0,0)).1 0 (q.getD j (0,0)).2 _ (hg _ _ (by omega) (by omega) (by omega) (by omega)) hnl (fun h0=>?_) (fun h1=>?_))⟩
     ·repeat' (first|omega|(try apply yaa);simp only [go_sem]|apply yab<;>(intro h_;(try simp only [h_]);revert h_)|apply And.intro|with_reducible intro h_|trivial)
      refine ⟨_,_,_,?_,?_,⟨i,j+1,done++[((q.getD j (0,0)).1,f 0 (q.getD j (0,0)).2)],by omega,by omega,rfl,by simp;omega,by rw [←hdone,yot hjl (.inr he2) hi];simp,rfl,rfl⟩⟩
      ·omega
      ·rw [yf8 done h0,yb1]
       refine Wk.sub ?_ ?_<;>(simp only [go_sem,List.length_append])
     ·repeat' (first|omega|(try apply yaa);simp only [go_sem]|apply yab<;>(intro h_;(try simp only [h_]);revert h_)|apply And.intro|with_reducible intro h_|trivial)
      refine ⟨_,_,_,?_,?_,⟨i,j+1,done++[((q.getD j (0,0)).1,f 0 (q.getD j (0,0)).2)],by omega,by omega,rfl,by simp;omega,by rw [←hdone,yot hjl (.inr he2) hi];simp,rfl,rfl⟩⟩
      ·omega
      ·rw [yf9 done h1,yb1]
       refine Wk.sub ?_ ?_<;>(simp only [go_sem,List.length_append])
    ·have bi:decide ((i:Int)<p.length)=true:=by simp;omega
     have bin:((i:Int)==p.length)=false:=by simp;omega
     have bj:((j:Int)==q.length)=false:=by simp;omega
     have be1:decide ((p.getD i (0,0)).1<(q.getD j (0,0)).1)=false:=by exact decide_eq_false (by omega)
     have be2:decide ((q.getD j (0,0)).1<(p.getD i (0,0)).1)=false:=by exact decide_eq_false (by omega)
     repeat' (first|omega|(first|apply yaa|refine tbN yit ?_|refine tbL ydb ?_|refine tbN ydb ?_|skip);simp only [go_sem,t0,t1,u0,u1,bi,bin,bj,be1,be2]|apply yab<;>(intro h_;(try simp only [h_]);revert h_)|apply And.intro|with_reducible intro h_|trivial)
     refine ⟨yae.inline (yf7 _ _ g p q (nz done) (ycj done) (p.getD i (0,0)).1 (p.getD i (0,0)).2 (q.getD j (0,0)).2 _ (hg _ _ (by omega) (by omega) (by omega) (by omega)) hnl (fun h0=>?_) (fun h1=>?_))⟩
     ·repeat' (first|omega|(try apply yaa);simp only [go_sem]|apply yab<;>(intro h_;(try simp only [h_]);revert h_)|apply And.intro|with_reducible intro h_|trivial)
      refine ⟨_,_,_,?_,?_,⟨i+1,j+1,done++[((p.getD i (0,0)).1,f (p.getD i (0,0)).2 (q.getD j (0,0)).2)],by omega,by omega,rfl,by simp;omega,by rw [←hdone,yxm hil hjl (by omega)];simp,rfl,rfl⟩⟩
      ·omega
      ·rw [yf8 done h0,yb1]
       refine Wk.sub ?_ ?_<;>(simp only [go_sem,List.length_append])
     ·repeat' (first|omega|(try apply yaa);simp only [go_sem]|apply yab<;>(intro h_;(try simp only [h_]);revert h_)|apply And.intro|with_reducible intro h_|trivial)
      refine ⟨_,_,_,?_,?_,⟨i+1,j+1,done++[((p.getD i (0,0)).1,f (p.getD i (0,0)).2 (q.getD j (0,0)).2)],by omega,by omega,rfl,by simp;omega,by rw [←hdone,yxm hil hjl (by omega)];simp,rfl,rfl⟩⟩
      ·omega
      ·rw [yf9 done h1,yb1]
       refine Wk.sub ?_ ?_<;>(simp only [go_sem,List.length_append])
  ·obtain rfl:j=q.length:=by omega
   have bi:decide ((i:Int)<p.length)=true:=by simp;omega
   have bj:((q.length:Int)==q.length)=true:=by simp
   repeat' (first|omega|(first|apply yaa|refine tbN yit ?_|refine tbL ydb ?_|refine tbN ydb ?_|skip);simp only [go_sem,t0,t1,bi,bj]|apply yab<;>(intro h_;(try simp only [h_]);revert h_)|apply And.intro|with_reducible intro h_|trivial)
   refine ⟨yae.inline (yf7 _ _ g p q (nz done) (ycj done) (p.getD i (0,0)).1 (p.getD i (0,0)).2 0 _ (hg _ _ (by omega) (by omega) (by omega) (by omega)) hnl (fun h0=>?_) (fun h1=>?_))⟩
   ·repeat' (first|omega|(try apply yaa);simp only [go_sem]|apply yab<;>(intro h_;(try simp only [h_]);revert h_)|apply And.intro|with_reducible intro h_|trivial)
    refine ⟨_,_,_,?_,?_,⟨i+1,q.length,done++[((p.getD i (0,0)).1,f (p.getD i (0,0)).2 0)],by omega,by omega,rfl,by simp;omega,by rw [←hdone,yos hil (.inl rfl) hj];simp,rfl,rfl⟩⟩
    ·omega
    ·rw [yf8 done h0,yb1]
     refine Wk.sub ?_ ?_<;>(simp only [go_sem,List.length_append])
   ·repeat' (first|omega|(try apply yaa);simp only [go_sem]|apply yab<;>(intro h_;(try simp only [h_]);revert h_)|apply And.intro|with_reducible intro h_|trivial)
    refine ⟨_,_,_,?_,?_,⟨i+1,q.length,done++[((p.getD i (0,0)).1,f (p.getD i (0,0)).2 0)],by omega,by omega,rfl,by simp;omega,by rw [←hdone,yos hil (.inl rfl) hj];simp,rfl,rfl⟩⟩
    ·omega
    ·rw [yf9 done h1,yb1]
     refine Wk.sub ?_ ?_<;>(simp only [go_sem,List.length_append])
 ·obtain rfl:i=p.length:=by omega
  by_cases hjl:j<q.length
  ·have fq:=yda hq hjl
   have u0:=u0 hjl
   have u1:=u1 hjl
   have bi:decide ((p.length:Int)<p.length)=false:=by simp
   have bin:((p.length:Int)==p.length)=true:=by simp
   have bj:((j:Int)==q.length)=false:=by simp;omega
   have bjl:decide ((j:Int)<q.length)=true:=by simp;omega
   repeat' (first|omega|(first|apply yaa|refine tbN yit ?_|refine tbL ydb ?_|refine tbN ydb ?_|skip);simp only [go_sem,u0,u1,bi,bin,bj,bjl]|apply yab<;>(intro h_;(try simp only [h_]);revert h_)|apply And.intro|with_reducible intro h_|trivial)
   refine ⟨yae.inline (yf7 _ _ g p q (nz done) (ycj done) (q.getD j (0,0)).1 0 (q.getD j (0,0)).2 _ (hg _ _ (by omega) (by omega) (by omega) (by omega)) hnl (fun h0=>?_) (fun h1=>?_))⟩
   ·repeat' (first|omega|(try apply yaa);simp only [go_sem]|apply yab<;>(intro h_;(try simp only [h_]);revert h_)|apply And.intro|with_reducible intro h_|trivial)
    refine ⟨_,_,_,?_,?_,⟨p.length,j+1,done++[((q.getD j (0,0)).1,f 0 (q.getD j (0,0)).2)],by omega,by omega,rfl,by simp;omega,by rw [←hdone,yot hjl (.inl rfl) hi];simp,rfl,rfl⟩⟩
    ·omega
    ·rw [yf8 done h0,yb1]
     refine Wk.sub ?_ ?_<;>(simp only [go_sem,List.length_append])
   ·repeat' (first|omega|(try apply yaa);simp only [go_sem]|apply yab<;>(intro h_;(try simp only [h_]);revert h_)|apply And.intro|with_reducible intro h_|trivial)
    refine ⟨_,_,_,?_,?_,⟨p.length,j+1,done++[((q.getD j (0,0)).1,f 0 (q.getD j (0,0)).2)],by omega,by omega,rfl,by simp;omega,by rw [←hdone,yot hjl (.inl rfl) hi];simp,rfl,rfl⟩⟩
    ·omega
    ·rw [yf9 done h1,yb1]
     refine Wk.sub ?_ ?_<;>(simp only [go_sem,List.length_append])
  ·obtain rfl:j=q.length:=by omega
   rw [List.drop_length,List.drop_length] at hdone
   have hd:mrg f p q=done:=by rw [←hdone];simp [mrg]
   rw [hd]
   repeat' (first|omega|(try apply yaa);simp only [go_sem]|apply yab<;>(intro h_;(try simp only [h_]);revert h_)|apply And.intro|with_reducible intro h_|trivial)
   all_goals first
    |(rw [if_pos (by assumption)];exact LeA.refl _)
    |(rw [if_neg (by simp only [*];decide)];exact LeA.aggL (.cons (LeA.refl _) (.cons (LeA.nils (by omega) rfl) .nil)))
    |(rw [if_pos (by assumption),List.take_of_length_le (by rw [ya9];omega)];exact LeA.refl _)
end Go.Proofs.YtfgbnalnbdhimaaGreatDoor
set_option linter.unusedSimpArgs false
set_option linter.unusedVariables false
namespace Go.Proofs.YtfgbnalnbdhimaaGreatDoor
open Go Go.RowKit
set_option maxRecDepth 100000
set_option maxHeartbeats 8000000
theorem y33 (a b:Int) (h1: -1125899906842624<=a) (h2:a<=1125899906842624) (h3: -1125899906842624<=b) (h4:b<=1125899906842624):Fn Tryz.prog 52 [I a,I b] (I (addF a b)):=by
 unfold addF
 refine Fn.intro [.tmp 4] Tryz.func52 rfl rfl (by decide) (by simp [Tryz.ntmps52]) ?_;rw [Tryz.ntmps52]
 repeat' (first|omega|(try apply yaa);simp only [go_sem]|apply yab<;>(intro h_;(try simp only [h_]);revert h_)|apply And.intro|with_reducible intro h_|trivial)
end Go.Proofs.YtfgbnalnbdhimaaGreatDoor
