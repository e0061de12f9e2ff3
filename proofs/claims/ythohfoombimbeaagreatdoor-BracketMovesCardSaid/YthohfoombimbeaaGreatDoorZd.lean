/- Statements that draw their order: the lists by tables. -/
import Derived.Test.YthohfoombimbeaaGreatDoorTy
import Derived.Test.YthohfoombimbeaaGreatDoorZa
import Derived.ProofKit
import Derived.LaidMore
import Derived.OpenShut
import Derived.Stop.Joined
import Derived.ReadAgain
import Derived.Lib.SmallJoins
import Derived.ChangeSlices
import Derived.Test.YthohfoombimbeaaGreatDoorTie
import Derived.Test.YthohfoombimbeaaGreatDoorCards
import Derived.SevenTiedAt
import Derived.Deep.Grids
set_option linter.unusedSimpArgs false
set_option linter.unusedVariables false
namespace Go.Proofs.YthohfoombimbeaaGreatDoor
open Go Go.RowKit
def FF{α:Type}:List (Nat×α)->Nat->Option α
 |[],_=>none
 |(k,x)::l,n=>cond (Nat.beq k n) (some x) (FF l n)
abbrev fc:Type:=List (Nat×List (List Nat)×List (List Nat))
abbrev Hy:Type:=List (Nat×List (List Nat)×List (List Nat)×List Nat)
abbrev wV:Type:=List (Nat×Tr)
section
variable{N:Nat}{ops:Array Oper}{id:Nat}{fr:Fr}{H:Hp}{Q:Exit->Fr->Hp->Prop}{ex dl:List (List Nat)}{l:List Nat}{t:Tr}
theorem aw(T:fc)(h:eI Tryz.prog N ops (hnew H) 0 ops.toList ex dl fr H (Q .normal))(hT:FF T id=some (ex,dl):=by rfl)(cC:(Hu ops ex dl&&(ex.length==ops.size)&&(dl.length==ops.size)&&HQ ops)=true:=by decide+kernel):a8 Tryz.prog N id ops fr H Q:= .intro ex dl cC mixed h
theorem cY(T:fc)(h:eI Tryz.prog N ops (hnew H) 0 (ops.toList.take (ops.size-1)) ex dl fr H (yqd Tryz.prog N ops (Q .normal)))(hT:FF T id=some (ex,dl):=by rfl)(cC:(Hu ops ex dl&&(ex.length==ops.size)&&(dl.length==ops.size)&&HQ ops&&LS ops)=true:=by decide+kernel):a8 Tryz.prog N id ops fr H Q:= .av ex dl cC mixed h
theorem vi(T:Hy)(al ids:List Nat)(hT:FF T id=some (ex,dl,l))(kX:sepF fr l=true)(gI:resF fr al ids=true)(h:eI Tryz.prog N ops (hnew H) 0 ops.toList ex dl fr H (Q .normal))(cC:(sF al ids ops ex dl&&(ex.length==ops.size)&&(dl.length==ops.size)&&(Ih ops==l))=true:=by decide+kernel):a8 Tryz.prog N id ops fr H Q:= .Bu al ids ex dl l cC mixed kX gI h
theorem gH(T:wV)(h:awT Tryz.prog N ops t fr H (Q .normal))(hT:FF T id=some t:=by rfl)(cC:pz ops (Array.replicate ops.size false) ops.size t=true:=by decide+kernel):a8 Tryz.prog N id ops fr H Q:= .Bt t cC mixed h
end
section
variable{P:Program}{N:Nat}{ops:Array Oper}{fr:Fr}{H Hd:Hp}{K:Fr->Hp->Prop}{d:Option Nat}{g:Nat}{xs:List AV}{v:AV}
theorem az{r:List Oper}(k:fO P N ops r (fput fr d v) H K)(hp:xs.all p3=true:=by rfl)(h:Fn P g xs v:=by assumption):U6 P N ops d r fr H K g xs:=⟨.fn hp h k⟩
theorem aA{base j:Nat}{r:List Oper}{bK bL:List (List Nat)}{nf:Bool}(k:eI P N ops base (j+1) r bK bL (fput fr d v) H K)(hp:xs.all p3=true:=by rfl)(h:Fn P g xs v:=by assumption):KS P N ops base j fr H K d Hd r bK bL g xs nf:=⟨dd.fn hp h k⟩
end
attribute [go_sem_proc] Nat.reduceLT Nat.reduceLeDiff Nat.reduceEqDiff Nat.reduceBEq Nat.reduceBNe Nat.reduceAdd Nat.reduceMul Nat.reduceSub Nat.reduceDiv Nat.reduceMod Int.reduceToNat Int.reduceAdd Int.reduceLT Int.reduceLE Int.reduceEq Int.reduceSub Int.reduceMul Int.reduceNeg reduceCtorEq
attribute [go_sem_proc ↓] reduceIte
set_option maxRecDepth 99999
abbrev roI(l:List Int):AV:= .ro 1 l.length (.ints l)
abbrev roB(l:List Bool):AV:= .ro 1 l.length (.bools l)
abbrev dgA(s m:List Int)(L:Int):AV:= .agg [roI s,roI m,I L]
attribute [go_sem] roI roB dgA
def sP(l:List Int):AV:= .ro 1 l.length (.ints l)
abbrev oN(ls:List (List Int)):AV:= .ro 1 ls.length (.lst (ls.map sP))
theorem yzq(H:Hp)(l:List Int):s3 H (sP l)=true:=rfl
theorem yem(H:Hp)(ls:List (List Int)):ls.all (s3 H∘sP)=true:=by simp[yzq]
theorem y6v(n:Nat):cutV n∘sP=sP:=by funext l;rfl
theorem y25(H:Hp)(n:Nat):snap H (n+1)∘sP=sP:=by funext l;rfl
theorem Tx(H:Hp)(n:Nat)(ls:List (List Int)):∀x∈ls.map sP,dO H (n+1) x:=fun x hx=>by
 obtain⟨l,_,rfl⟩:=zzE.1 hx;trivial
theorem SM(ls:List (List Int))(i:Nat)(h:i<ls.length):(ls.map sP).getD i .any=roI (ls.getD i []):=by simp[h,sP]
attribute [go_sem] yzq yem y6v y25
theorem RE{a b:Int}(h:0<=a):a.tmod b=a % b:=Int.tmod_eq_emod_of_nonneg h
theorem u9{a b:Int}(h:0<=a):a.tdiv b=a/b:=Int.tdiv_eq_ediv_of_nonneg h
theorem y6w(h b:Int)(h0:0<=h)(h1:h<=100000):Fn Tryz.prog 74 [I h,I b] (I (h-h % 4+(h % 4+b.tmod 4+4)% 4)):=by
 have e1:h.tmod 4=h % 4:=Int.tmod_eq_emod_of_nonneg h0;have e2: -4<b.tmod 4/\b.tmod 4<4:=⟨Int.lt_tmod_of_pos b (by decide),Int.tmod_lt_of_pos b (by decide)⟩;have e3:(h % 4+b.tmod 4+4).tmod 4=(h % 4+b.tmod 4+4)% 4:=Int.tmod_eq_emod_of_nonneg (by omega);refine Fn.intro [.tmp 4] Tryz.func74 rfl rfl (by decide) (by simp[Tryz.ntmps74]) ?_;rw[Tryz.ntmps74]
 repeat' (first|omega|(try apply ah);simp only[go_sem]|apply ag<;>(intro h_;(try simp only[h_]);revert h_)|apply zO|with_reducible intro h_|trivial)
 all_goals try simp only[e1,e3]
 all_goals try omega
theorem Up(s m:List Int)(L h:Int)(h0:0<=h)(h1:h<4*s.length)(hs:s.length<=1000):Fn Tryz.prog 37 [dgA s m L,I h] (.bool (aB s h)):=by
 have e1:h.tmod 4=h % 4:=Int.tmod_eq_emod_of_nonneg h0;have e2:h.tdiv 4=h/4:=Int.tdiv_eq_ediv_of_nonneg h0;refine Fn.intro [.tmp 4] Tryz.func37 rfl rfl (by decide) (by simp[Tryz.ntmps37]) ?_;rw[Tryz.ntmps37]
 repeat' (first|omega|(try apply ah);simp only[go_sem]|apply ag<;>(intro h_;(try simp only[h_]);revert h_)|apply zO|with_reducible intro h_|trivial)
 all_goals try simp only[e1,e2]at*
 all_goals try omega
 all_goals simp_all[aB]
theorem SL(s m:List Int)(L:Int)(hs:s.length<=1000)(hm:rI m s.length):Fn Tryz.prog 73 [dgA s m L] (.tup [roI (dY m s.length).1,I (dY m s.length).2]):=by
 refine Fn.intro [.tmp 2,.tmp 3] Tryz.func73 rfl rfl (by decide) (by simp[Tryz.ntmps73]) ?_;rw[Tryz.ntmps73]
 repeat' (first|omega|(try apply ah);simp only[go_sem]|apply ag<;>(intro h_;(try simp only[h_]);revert h_)|apply zO|with_reducible intro h_|trivial)
 refine dr.intro (fun n fr H=>∃k:Nat,k<=s.length/\n=s.length-k/\fr=[(18,I k),(17,I s.length),(4,.sl 1 1 0 s.length),(1,.ptr 0 0)]/\H=[(1,.cells 3 (.ints (List.replicate k (-1)++List.replicate (s.length-k) 0))),(0,.cells 24 (.lst [roI s,roI m,I L]))]) ?_ ?_
 ·refine⟨_,_,_,?_,0,by omega,rfl,rfl,rfl⟩;refine Wk.sub ?_ ?_<;>simp only[go_sem];simp
 rintro n fr H ⟨k,hk,rfl,rfl,rfl⟩
 repeat' (first|omega|(try apply ah);simp only[go_sem]|apply ag<;>(intro h_;(try simp only[h_]);revert h_)|apply zO|with_reducible intro h_|trivial)
 ·refine⟨_,_,_,?_,?_,⟨k+1,by omega,rfl,rfl,rfl⟩⟩
  ·omega
  ·refine Wk.sub ?_ ?_<;>simp only[go_sem];exact y2u _ _ _ _ (by omega)
 obtain rfl:k=s.length:=by omega
 refine dr.intro (fun n fr H=>∃k:Nat,k<=s.length/\n=s.length-k/\fr=[(27,I k),(26,I s.length),(6,I (cg m s.length k).2),(4,.sl 1 1 0 s.length),(1,.ptr 0 0)]/\H=[(1,.cells 3 (.ints (cg m s.length k).1)),(0,.cells 24 (.lst [roI s,roI m,I L]))]) ?_ ?_
 ·refine⟨_,_,_,?_,0,by omega,rfl,rfl,rfl⟩;refine Wk.sub ?_ ?_<;>simp only[go_sem]
  ·simp[cg]
  ·simp[cg]
 rintro n fr H ⟨k,hk,rfl,rfl,rfl⟩;obtain⟨dM,ow,OW⟩:=Eg hm k hk;have gq:=dM.1
 repeat' (first|omega|(try apply ah);simp only[go_sem]|apply ag<;>(intro h_;(try simp only[h_]);revert h_)|apply zO|with_reducible intro h_|trivial)
 ·refine⟨_,_,_,?_,?_,⟨k+1,by omega,rfl,rfl,rfl⟩⟩
  ·omega
  ·have e:cg m s.length (k+1)=cg m s.length k:=by simp only[cg,Dn];rw[zM (by assumption)]
   refine Wk.sub ?_ ?_<;>(simp only[go_sem];rw[e])
 ·have sq:(cg m s.length k).1.getD k 0<0:=by assumption
  have Ph:k<s.length:=by omega
  have eN:cg m s.length (k+1)=(kB m (cg m s.length k).2 (2*s.length+1) ((cg m s.length k).1.set k (cg m s.length k).2) [(k:Int)],(cg m s.length k).2+1):=by simp only[cg,Dn];rw[zL (by omega)]
  have DE:=Mz (i:=k) (by omega) sq ow;have lg:=RZ (cg m s.length k).1;have kY:uD s.length (cg m s.length k).2 ((cg m s.length k).1.set k (cg m s.length k).2):=⟨by simp[gq],fun i hi=>by
   by_cases e:k=i
   ·subst e;rw[pZ (by omega)];omega
   ·rw[oH e];exact dM.2 i hi⟩
  generalize (cg m s.length k).1.set k (cg m s.length k).2=z8 at*
  refine dr.intro (fun f fr H=>∃(part q cq:List Int) (off:Nat),2*nH part+q.length<=f/\f<=2*s.length+1/\uD s.length (cg m s.length k).2 part/\zy s.length q/\off+q.length=cq.length/\cq.drop off=q/\kB m (cg m s.length k).2 f part q=kB m (cg m s.length k).2 (2*s.length+1) z8 [(k:Int)]/\
   fr=[(8,.sl 1 2 off q.length),(27,I k),(26,I s.length),(6,I (cg m s.length k).2),(4,.sl 1 1 0 s.length),(1,.ptr 0 0)]/\H=[(2,.cells 3 (.ints cq)),(1,.cells 3 (.ints part)),(0,.cells 24 (.lst [roI s,roI m,I L]))]) ?_ ?_
  ·refine⟨_,_,_,?_,z8,[(k:Int)],[(k:Int)],0,?_,zA _,kY,fun x hx=>by simp at hx;omega,rfl,rfl,rfl,rfl,rfl⟩
   ·refine Wk.sub ?_ ?_<;>simp only[go_sem]
   ·simp only[List.length_singleton];omega
  rintro f fr H ⟨part,q,cq,off,hf,yI,Gg,Wo,hoc,WQ,PC,rfl,rfl⟩;have hppl:=Gg.1
  repeat' (first|omega|(try apply ah);simp only[go_sem]|apply ag<;>(intro h_;(try simp only[h_]);revert h_)|apply zO|with_reducible intro h_|trivial)
  ·--the four neighbours
   have mD:0<q.length:=by omega
   obtain⟨c,q',rfl⟩:∃c q',q=c::q':=by
    cases q with
    |nil=>simp at mD
    |cons c q'=>exact⟨c,q',rfl⟩
   have Kf:cq.getD off 0=c:=by
    have:=congrArg (fun l=>l.getD 0 0) WQ
    simpa using this
   have Px:cq.drop (off+1)=q':=by
    have:=congrArg List.tail WQ
    simpa using this
   have WS:=Wo c (by simp);have OO:zy s.length q':=fun x hx=>Wo x (by simp[hx]);simp only[zH]at hf hoc;rw[Kf]
   refine dr.intro (fun j fr H=>∃(i:Nat) (cq nG:_),j=4-i/\i<=4/\nG+(fQ m c (cg m s.length k).2 (part,q') i).2.length=(cq:List Int).length/\cq.drop nG=(fQ m c (cg m s.length k).2 (part,q') i).2/\
    fr=[(49,I i),(8,.sl 1 2 nG (fQ m c (cg m s.length k).2 (part,q') i).2.length),(9,I c),(27,I k),(26,I s.length),(6,I (cg m s.length k).2),(4,.sl 1 1 0 s.length),(1,.ptr 0 0)]/\H=[(2,.cells 3 (.ints cq)),(1,.cells 3 (.ints (fQ m c (cg m s.length k).2 (part,q') i).1)),(0,.cells 24 (.lst [roI s,roI m,I L]))]) ?_ ?_
   ·refine⟨_,_,_,?_,0,cq,off+1,rfl,by omega,by simp only[fQ];omega,by simp only[fQ];exact Px,rfl,rfl⟩;refine Wk.sub ?_ ?_<;>simp only[go_sem]
    ·simp[fQ]
    ·simp[fQ]
   rintro j fr H ⟨i,cq,nG,rfl,hi,O6,J6,rfl,rfl⟩;obtain⟨g1,g2,g3,g5⟩:=Ie hm WS ow (st:=(part,q')) Gg OO i hi;have g1l:=g1.1;simp only at g3 g5;by_cases WG:i<4
   ·have xz:=hm.2 (4*c+i).toNat (by omega);have dw:=hm.1;have e2:(m.getD (4*c+i).toNat 0).tdiv 4=m.getD (4*c+i).toNat 0/4:=u9 xz.1;have JW:0<=m.getD (4*c+i).toNat 0/4/\m.getD (4*c+i).toNat 0/4<s.length:=by omega
    have eL:fQ m c (cg m s.length k).2 (part,q') (i+1)=mg m c (cg m s.length k).2 i (fQ m c (cg m s.length k).2 (part,q') i):=rfl
    repeat' (first|omega|(try apply ah);simp only[go_sem,e2]|apply ag<;>(intro h_;(try simp only[h_]);revert h_)|apply zO|with_reducible intro h_|trivial)
    ·have Wu:(fQ m c (cg m s.length k).2 (part,q') i).1.getD (m.getD (4*c+i).toNat 0/4).toNat 0<0:=by assumption
     have eB:fQ m c (cg m s.length k).2 (part,q') (i+1)=((fQ m c (cg m s.length k).2 (part,q') i).1.set (m.getD (4*c+i).toNat 0/4).toNat (cg m s.length k).2,(fQ m c (cg m s.length k).2 (part,q') i).2++[m.getD (4*c+i).toNat 0/4]):=by
      rw[eL];unfold mg;simp only;rw[zM Wu]
     refine⟨_,_,_,?_,?_,⟨i+1,cq.drop nG++[m.getD (4*c+i).toNat 0/4],0,rfl,by omega,?_,?_,rfl,rfl⟩⟩
     ·omega
     ·refine Wk.sub ?_ ?_<;>(rw[eB];simp only[go_sem])
     ·rw[eB,J6];simp
     ·rw[eB,J6];simp
    ·have Wu:0<=(fQ m c (cg m s.length k).2 (part,q') i).1.getD (m.getD (4*c+i).toNat 0/4).toNat 0:=by assumption
     have eB:fQ m c (cg m s.length k).2 (part,q') (i+1)=fQ m c (cg m s.length k).2 (part,q') i:=by
      rw[eL];unfold mg;simp only;rw[zL (by omega)]
     refine⟨_,_,_,?_,?_,⟨i+1,cq,nG,rfl,by omega,?_,?_,rfl,rfl⟩⟩
     ·omega
     ·refine Wk.sub ?_ ?_<;>(rw[eB];simp only[go_sem])
     ·rw[eB];exact O6
     ·rw[eB];exact J6
   ·obtain rfl:i=4:=by omega
    repeat' (first|omega|(try apply ah);simp only[go_sem]|apply ag<;>(intro h_;(try simp only[h_]);revert h_)|apply zO|with_reducible intro h_|trivial)
    obtain⟨f',rfl⟩:∃f',f=f'+1:=⟨f-1,by omega⟩;refine⟨f',_,_,?_,?_,⟨(fQ m c (cg m s.length k).2 (part,q') 4).1,(fQ m c (cg m s.length k).2 (part,q') 4).2,cq,nG,?_,?_,g1,g2,O6,J6,?_,rfl,rfl⟩⟩
    ·omega
    ·refine Wk.sub ?_ ?_<;>simp only[go_sem]
    ·omega
    ·omega
    ·rw[<-PC];rfl
  ·obtain rfl:q=[]:=zT (by omega);have eP:kB m (cg m s.length k).2 f part []=part:=by unfold kB;rfl
   rw[eP]at PC;refine⟨_,_,_,?_,?_,⟨k+1,by omega,rfl,rfl,rfl⟩⟩
   ·omega
   ·refine Wk.sub ?_ ?_<;>(rw[eN];simp only[go_sem]);exact PC
 ·obtain rfl:k=s.length:=by omega
  exact gq.symm
 ·obtain rfl:k=s.length:=by omega
  exact zU (by omega)
 ·obtain rfl:k=s.length:=by omega
  rfl
end Go.Proofs.YthohfoombimbeaaGreatDoor
namespace Go.Proofs.YthohfoombimbeaaGreatDoor
set_option maxRecDepth 99999
open Go Go.Joins Go.ChangeShapes Go.WideShapes Go.ChangeAt Go.WideMaps Go.WideElems Go.RowKit
theorem kids:Kids Tryz.prog (· <Tryz.prog.types.size):=kids_rows (by kernel_rfl) (by kernel_rfl)
theorem full:∀t e,t<Tryz.prog.types.size->Tryz.prog.underlying t=some (.slice e)->0<Tryz.prog.cellsOf e:=slices_full_of Tryz.prog (by kernel_rfl)
section
variable{H:Type}{enc:TypeId×Value->H}
theorem UK{P:Program}{W W':World}{base:Nat}{sp:Nat->Bool}{held:Bool}:∀{ts:List TypeId} {vs:List Value} {ds:List (DataW H)} {ps:List MemPlace},DataW.TrodAll enc P W base sp held ts vs ds ps->(∀p∈ps,W.sameAt W' p)->DataW.TrodAll enc P W' base sp held ts vs ds ps
 |[],[],[],_,h,_=>h
 |_::_,_::_,_::_,_,⟨p,q,⟨n,h1⟩,h2,e⟩,hs=>⟨p,q,⟨n,DataW.trod_carry n _ _ _ h1 (fun x hx=>hs x (by rw[e];exact List.mem_append_left _ hx))⟩,UK h2 (fun x hx=>hs x (by rw[e];exact List.mem_append_right _ hx)),e⟩
theorem y26{f:Func}{s:ChangeSpec}{apart fresh handsOn again:Bool}{W W':World}{args:Array Value}{ds gs:List (DataW H)}{before:List MemPlace}
  (hW:DataW.Whole enc Tryz.prog f.params.toList s.vars apart W args.toList ds gs before) (hv:s.vars=[]) (hT:∀t∈f.params.toList,t<Tryz.prog.types.size)
  (hr:f.resultTypes= #[4]) (hs:s.fn H (ds++gs)={results:=[.lit (.bool true)],args:=ds}) (hb:Below W.heap.size W W'):
  s.post enc Tryz.prog f apart fresh handsOn again W args (.bool true) W':=by
 have hold:∀p∈before,(fun b=>decide (b<W.heap.size)) p.block=true:=fun p hp=>by simpa using hW.lt p hp
 have aC:∀p∈before,p.block<W.heap.size:=fun p hp=>hW.lt p hp;obtain⟨p,q,hA,hV,dS,hz,hn⟩:=hW;have hWw:DataW.Whole enc Tryz.prog f.params.toList s.vars apart W args.toList ds gs before:=⟨p,q,hA,hV,dS,hz,hn⟩;rw[hv]at hV;obtain⟨rfl,rfl⟩:=trodVars_none hV;rw[List.append_nil]at dS;subst dS
 have tc:∀sp:Nat->Bool,(∀x∈before,sp x.block=true)->DataW.TrodAll enc Tryz.prog W' 0 sp true f.params.toList args.toList ds before:=fun sp gX=>
  UK (DataW.TrodAll.respare kids full hT hA gX) fun x hx=>hb.same (aC x hx)
 have gI:∀(b:Nat) (sp:Nat->Bool) (hd:Bool),DataW.TrodAll enc Tryz.prog W' b sp hd f.resultTypes.toList ((Value.bool true).resultList f.resultTypes.size) [.lit (.bool true)] []:=fun b sp hd=>by
  rw[hr];exact trodAll_mk1 (shut_bool Tryz.underlying4 _)
 refine⟨ds,[],before,[],before,[],hWw,?_,?_,?_,hb.frame _,fun _=>?_⟩
 ·rw[hs];exact gI _ _ _
 ·rw[hs];exact tc _ hold
 ·rw[hv,hs];rfl
 ·refine⟨?_,[.lit (.bool true)]++ds,[],[]++before,⟨[]++before,[],trodAll_append (tc _ (fun _ _=>rfl)) (gI _ _ _),?_,by simp,?_,?_⟩,?_⟩
  ·exact ok_one hr (by rfl) (okWide_bool_mk Tryz.underlying4 _)
  ·rw[hv];rfl
  ·intro b off hp;have mE:MemPlace.cell b off∈before:=by simpa using hp
   rw[hb.frozen (aC _ mE)];exact hz b off mE
  ·intro ha
   have:=hn ha
   simpa using this
  ·intro p hp _;simpa using hp
theorem RD{w:World}{fuel:Nat}{v:Value}{x:DataW H×List MemPlace}(h:DataW.trod enc Tryz.prog w 0 (fun _=>true) true fuel 22 [v]=some x):∃s:List Int,VR w (fun _=>False) ρ0 (fun _=>False) v (roI s):=by
 rcases open_ints Tryz.underlying22 Tryz.underlying3 (by kernel_rfl) h with ⟨hc,_⟩|⟨a,len,cap,zs,hc,_,hl,_,hz,_,iR,_⟩
 ·simp only[List.cons.injEq,and_true]at hc;subst hc;exact⟨[],.ro 1 0 (.ints []) none 0 (fun _=>undef) rfl (zA _) (by decide) (fun h=>zzA h (by decide)) (fun j hj=>by simp[Cs.len]at hj)⟩
 ·simp only[List.cons.injEq,and_true]at hc;subst hc;simp only[if_true]at hz;refine⟨zs.take len,?_⟩;have e:(zs.take len).length=len:=by rw[List.length_take];omega
  unfold roI;rw[e];refine .ro 1 len (.ints (zs.take len)) (some a) cap (fun j=> .int .i64 (zs.getD j 0)) (by simp[Cs.len];omega) hl (by decide) (fun h0=>⟨a,rfl,?_,fun h=>h,fun j hj=>?_⟩) fun j hj=>?_
  ·have h1:=iR 0 (by omega);unfold World.cell? at h1;rw[show (a.add 0)=a from rfl]at h1
   split at h1
   ·rename_i hb;exact(Array.getElem?_eq_some_iff.1 hb).1
   ·cases h1
  ·exact iR j (by simp[Cs.len]at hj;omega)
  ·have gU:j<len:=by simp[Cs.len]at hj;omega
   simp only[Cs.get];rw[show (zs.take len).getD j 0=zs.getD j 0 by simp[zB,List.getElem?_take,gU]];exact .int _ _
theorem dg_VR{w:World}{r:Reach}{b0:Nat}{v:Value}{d:DataW H}{p:List MemPlace}(hv:Value.okWide Tryz.prog w r b0 24 v)(h:DataW.Trod enc Tryz.prog w 0 (fun _=>true) true 24 v d p):
  ∃(s m:List Int) (L:Int),VR w (fun _=>False) ρ0 (fun _=>False) v (dgA s m L):=by
 obtain⟨v0,v1,v2,y0,y1,y2,n,rfl,_,_,h0,h1,h2⟩:=open_agg3 Tryz.underlying24 (by kernel_rfl) (by kernel_rfl) hv h;obtain⟨s,hs⟩:=RD h0;obtain⟨m,hm⟩:=RD h1;obtain⟨L,e,_⟩:=DataW.trod_int Tryz.underlying3 h2;simp only[List.cons.injEq,and_true]at e;subst e;refine⟨s,m,L,.agg [v0,v1,.int .i64 L] [roI s,roI m,I L] rfl fun i u x hu hx=>?_⟩
 match i,hu,hx with
 |0,hu,hx=>simp at hu hx;subst hu hx;exact hs
 |1,hu,hx=>simp at hu hx;subst hu hx;exact hm
 |2,hu,hx=>simp at hu hx;subst hu hx;exact .int _ _
end
theorem own:ownKnob Tryz.prog.godebug=none:=by kernel_rfl
def ynn:List (String×DataW Unit):=[("math/bits.deBruijn32tab",Rows.laid_math_bits_deBruijn32tab),("math/bits.deBruijn64tab",Rows.laid_math_bits_deBruijn64tab),("internal/strconv.uint64pow10",Rows.laid_internal_strconv_uint64pow10)]
theorem PZ:Tryz.prog.globalNamed "internal/strconv.uint64pow10" =some 0:=by kernel_rfl
theorem NJ:(Tryz.prog.globals[0]?).map (·.type)=some 154:=by kernel_rfl
theorem yrx{W:World}(h:laidMetH Tryz.prog ynn W):Good W:=by
 rw[MakeChecks.laidMetH_plain _ _ _ (by kernel_rfl)]at h;obtain⟨ps,⟨g0,t0,cs0,f0,p0,q0,hg0,ht0,hv0,BU,⟨g1,t1,cs1,f1,p1,q1,xA,ht1,hv1,dW,⟨g2,t2,cs2,f2,p2,q2,wm,ht2,JU,im,_,_⟩,_⟩,_⟩,_,_⟩:=h;obtain rfl:=Option.some.inj (PZ.symm.trans wm);obtain rfl:=Option.some.inj (NJ.symm.trans ht2);have e:(Rows.laid_internal_strconv_uint64pow10:DataW Unit)=Lib.tabData .u64 Lib.pow10Tab:=by rfl
 rw[e]at im;unfold Good Lib.TabIs;rw[JU,<-Lib.cells_of_tab Tryz.underlying154 Tryz.underlying110 (by kernel_rfl) (by kernel_rfl) im]
theorem y27(os:Os)(args:Array Value):laidMetH Tryz.prog ynn ((World.doorLaid Tryz.prog 400 os).forCall (fun _ _=>0) ⟨#[],args,[]⟩).memory:=
 laidMetH_of_parts3 (fuel:=8) (laidMet_of_run' 8 (by kernel_rfl) (by kernel_rfl)) (by kernel_rfl) (by kernel_rfl)
end Go.Proofs.YthohfoombimbeaaGreatDoor
namespace Go.Proofs.YthohfoombimbeaaGreatDoor
open Go Go.RowKit
set_option maxRecDepth 99999
theorem Iy(h b:Int)(h0:0<=h)(h1:h<=100000):Fn Tryz.prog 74 [I h,I b] (I (kH h b)):=y6w h b h0 h1
theorem YY(s m:List Int)(L:Int)(hs:s.length<=1000)(hm:rI m s.length):Fn Tryz.prog 38 [dgA s m L] (.bool (oK m s.length)):=by
 obtain⟨p1,p2,p3,p4⟩:=EU hm;have dw:=hm.1;refine Fn.intro [.tmp 2] Tryz.func38 rfl rfl (by decide) (by simp[Tryz.ntmps38]) ?_;rw[Tryz.ntmps38]
 repeat' (first|omega|(try apply ah);simp only[go_sem]|apply ag<;>(intro h_;(try simp only[h_]);revert h_)|apply zO|with_reducible intro h_|trivial)
 refine⟨aL.fn rfl (SL s m L hs hm) ?_⟩
 repeat' (first|omega|(try apply ah);simp only[go_sem]|apply ag<;>(intro h_;(try simp only[h_]);revert h_)|apply zO|with_reducible intro h_|trivial)
 generalize o8:(dY m s.length).1=part at*;generalize Dz:(dY m s.length).2=np at*;refine dr.intro (fun n fr H=>∃k:Nat,k<=part.length/\n=part.length-k/\fr=[(22,I k),(21,I part.length),(20,roI part),(5,.sl 1 1 0 np.toNat),(3,roI part),(1,.ptr 0 0)]/\H=[(1,.cells 3 (.ints (iJ part np.toNat k))),(0,.cells 24 (.lst [roI s,roI m,I L]))]) ?_ ?_
 ·refine⟨_,_,_,?_,0,by omega,rfl,rfl,rfl⟩;refine Wk.sub ?_ ?_<;>simp only[go_sem];simp[iJ]
 rintro n fr H ⟨k,hk,rfl,rfl,rfl⟩;obtain⟨d1,d2⟩:=IG part np.toNat k;by_cases cX:k<part.length
 ·have q4:=p4 k (by omega);have d3:=d2 (part.getD k 0).toNat
  repeat' (first|omega|(try apply ah);simp only[go_sem]|apply ag<;>(intro h_;(try simp only[h_]);revert h_)|apply zO|with_reducible intro h_|trivial)
  refine⟨_,_,_,?_,?_,⟨k+1,by omega,rfl,rfl,rfl⟩⟩
  ·omega
  ·refine Wk.sub ?_ ?_<;>simp only[go_sem];rfl
 obtain rfl:k=part.length:=by omega
 repeat' (first|omega|(try apply ah);simp only[go_sem]|apply ag<;>(intro h_;(try simp only[h_]);revert h_)|apply zO|with_reducible intro h_|trivial)
 refine dr.intro (fun n fr H=>∃h:Nat,h<=m.length/\n=m.length-h/\fr=[(40,I h),(39,I m.length),(8,.sl 1 2 0 m.length),(5,.sl 1 1 0 np.toNat),(3,roI part),(1,.ptr 0 0)]/\H=[(2,.cells 4 (.bools (bZ m part np.toNat h).2)),(1,.cells 3 (.ints (bZ m part np.toNat h).1)),(0,.cells 24 (.lst [roI s,roI m,I L]))]) ?_ ?_
 ·refine⟨_,_,_,?_,0,by omega,rfl,rfl,rfl⟩;refine Wk.sub ?_ ?_<;>simp only[go_sem]
  all_goals simp[bZ]
 rintro n fr H ⟨h,hh,rfl,rfl,rfl⟩;obtain⟨e1,e2,e3⟩:=CR m part np.toNat h;by_cases hhl:h<m.length
 ·have q4:=p4 (h/4) (by omega);have e4:=e3 (part.getD (h/4) 0).toNat;have e5:(h:Int).tdiv 4=(h/4:Nat):=by rw[u9 (by omega)];omega
  have e6:((h:Int).toNat)=h:=by omega
  repeat' (first|omega|(try apply ah);simp only[go_sem,e5]|apply ag<;>(intro h_;(try simp only[h_]);revert h_)|apply zO|with_reducible intro h_|trivial)
  ·have eS:bZ m part np.toNat (h+1)=bZ m part np.toNat h:=by
    simp only[bZ,vm];rw[zM (by assumption)]
   refine⟨_,_,_,?_,?_,⟨h+1,by omega,rfl,rfl,rfl⟩⟩
   ·omega
   ·refine Wk.sub ?_ ?_<;>(rw[eS];simp only[go_sem])
  ·have hf:(bZ m part np.toNat h).2.getD h false=false:=by assumption
   have eS:bZ m part np.toNat (h+1)=((bZ m part np.toNat h).1.set (part.getD (h/4) 0).toNat ((bZ m part np.toNat h).1.getD (part.getD (h/4) 0).toNat 0+1),mark m (m.length+1) (bZ m part np.toNat h).2 h):=by
    simp only[bZ,vm];rw[zL (VN hf)]
   have hu:=Z3 (bZ m part np.toNat h).2;generalize (bZ m part np.toNat h).2=jC at*;generalize (bZ m part np.toNat h).1.set (part.getD (h/4) 0).toNat ((bZ m part np.toNat h).1.getD (part.getD (h/4) 0).toNat 0+1)=exc at*
   refine dr.intro (fun f fr H=>∃(seen:List Bool) (g:Int),Fb seen<f/\seen.length=m.length/\0<=g/\g<4*s.length/\mark m f seen g=mark m (m.length+1) jC h/\
    fr=[(10,I g),(40,I h),(39,I m.length),(8,.sl 1 2 0 m.length),(5,.sl 1 1 0 np.toNat),(3,roI part),(1,.ptr 0 0)]/\H=[(2,.cells 4 (.bools seen)),(1,.cells 3 (.ints exc)),(0,.cells 24 (.lst [roI s,roI m,I L]))]) ?_ ?_
   ·refine⟨m.length+1,_,_,?_,jC,h,by omega,e2,by omega,by omega,rfl,rfl,rfl⟩;refine Wk.sub ?_ ?_<;>simp only[go_sem]
   rintro f fr H ⟨seen,g,uP,yI,hg0,xA,DF,rfl,rfl⟩;obtain⟨f',rfl⟩:∃f',f=f'+1:=⟨f-1,by omega⟩;have xz:=hm.2 g.toNat (by omega)
   repeat' (first|omega|(try apply ah);simp only[go_sem]|apply ag<;>(intro h_;(try simp only[h_]);revert h_)|apply zO|with_reducible intro h_|trivial)
   ·refine⟨aL.fn rfl (Iy _ _ xz.1 (by omega)) ?_⟩
    repeat' (first|omega|(try apply ah);simp only[go_sem]|apply ag<;>(intro h_;(try simp only[h_]);revert h_)|apply zO|with_reducible intro h_|trivial)
    have se:seen.getD g.toNat false=false:=by assumption
    have hus:=y6k (l:=seen) (i:=g.toNat) (by omega) se;have Bz:=Ur (b:= -1) xz.1 xz.2;refine⟨f',_,_,?_,?_,⟨seen.set g.toNat true,kH (m.getD g.toNat 0) (-1),by omega,by simp[yI],Bz.1,Bz.2,?_,rfl,rfl⟩⟩
    ·omega
    ·refine Wk.sub ?_ ?_<;>simp only[go_sem]
    ·rw[<-DF];simp only[mark];rw[zL (VN se)]
   ·have se:seen.getD g.toNat false=true:=by assumption
    have Pc:seen=mark m (m.length+1) jC h:=by rw[<-DF];simp only[mark];rw[zM se]
    refine⟨_,_,_,?_,?_,⟨h+1,by omega,rfl,rfl,rfl⟩⟩
    ·omega
    ·refine Wk.sub ?_ ?_<;>(rw[eS];simp only[go_sem]);exact Pc
 obtain rfl:h=m.length:=by omega
 repeat' (first|omega|(try apply ah);simp only[go_sem]|apply ag<;>(intro h_;(try simp only[h_]);revert h_)|apply zO|with_reducible intro h_|trivial)
 refine dr.intro (fun n fr H=>∃k:Nat,k<=np.toNat/\n=np.toNat-k/\(∀i,i<k->(bZ m part np.toNat m.length).1.getD i 0=2)/\fr=[(75,I k),(74,I np.toNat),(73,.sl 1 1 0 np.toNat)]/\H=[(1,.cells 3 (.ints (bZ m part np.toNat m.length).1))]) ?_ ?_
 ·refine⟨_,_,_,?_,0,by omega,rfl,by omega,rfl,rfl⟩;refine Wk.sub ?_ ?_<;>simp only[go_sem]
 rintro n fr H ⟨k,hk,rfl,dz,rfl,rfl⟩
 repeat' (first|omega|(try apply ah);simp only[go_sem]|apply ag<;>(intro h_;(try simp only[h_]);revert h_)|apply zO|with_reducible intro h_|trivial)
 ·unfold oK;rw[o8,Dz];exact(Yo (k:=k) (by rw[(CR m part np.toNat m.length).1];omega) (by assumption)).symm
 ·refine⟨_,_,_,?_,?_,⟨k+1,by omega,rfl,fun i hi=>?_,rfl,rfl⟩⟩
  ·omega
  ·refine Wk.sub ?_ ?_<;>simp only[go_sem]
  ·rcases zY i k with g|g
   ·exact dz i g
   ·rw[show i=k by omega];assumption
 ·unfold oK;rw[o8,Dz];exact(XT (fun i hi=>dz i (by rw[(CR m part np.toNat m.length).1]at hi;omega))).symm
set_option maxHeartbeats 4000000
def ZY:fc:=[(15,[[76,78,79],[75,78,79],[78,79],[75,76,77,79],[75,76,77,78],[],[]],[[],[0],[],[0,1,2],[0,1,2,3],[],[]])]
def ZX:wV:=[(15,.node [(0,.node [(1,.node [(2,.node [(3,trD [4,5,6]),(4,trD [3,5,6])]),(3,.node [(2,trD [4,5,6]),(4,trD [2,5,6])]),(4,.node [(2,trD [3,5,6]),(3,trD [2,5,6])])]),(3,.node [(1,.node [(2,trD [4,5,6]),(4,trD [2,5,6])]),(4,trD [1,2,5,6])]),(4,.node [(1,.node [(2,trD [3,5,6]),(3,trD [2,5,6])]),(3,trD [1,2,5,6])])]),(1,.node [(0,.node [(2,.node [(3,trD [4,5,6]),(4,trD [3,5,6])]),(3,.node [(2,trD [4,5,6]),(4,trD [2,5,6])]),(4,.node [(2,trD [3,5,6]),(3,trD [2,5,6])])]),(3,.node [(0,.node [(2,trD [4,5,6]),(4,trD [2,5,6])]),(4,trD [0,2,5,6])]),(4,.node [(0,.node [(2,trD [3,5,6]),(3,trD [2,5,6])]),(3,trD [0,2,5,6])])]),(3,.node [(0,.node [(1,.node [(2,trD [4,5,6]),(4,trD [2,5,6])]),(4,trD [1,2,5,6])]),(1,.node [(0,.node [(2,trD [4,5,6]),(4,trD [2,5,6])]),(4,trD [0,2,5,6])]),(4,.node [(0,trD [1,2,5,6]),(1,trD [0,2,5,6])])]),(4,.node [(0,.node [(1,.node [(2,trD [3,5,6]),(3,trD [2,5,6])]),(3,trD [1,2,5,6])]),(1,.node [(0,.node [(2,trD [3,5,6]),(3,trD [2,5,6])]),(3,trD [0,2,5,6])]),(3,.node [(0,trD [1,2,5,6]),(1,trD [0,2,5,6])])])])]
theorem C4(s m:List Int)(L:Int):Fn Tryz.prog 13 [dgA s m L] (.bool (bG s m L)):=by
 refine Fn.intro [.tmp 2] Tryz.func13 rfl rfl (by decide) (by simp[Tryz.ntmps13]) ?_;rw[Tryz.ntmps13]
 repeat' (first|omega|(try apply ah);simp only[go_sem]|apply ag<;>(intro h_;(try simp only[h_]);revert h_)|apply zO|with_reducible intro h_|trivial)
 ·exact xk (by omega)
 rotate_left
 ·exact xk (by omega)
 ·exact xk (by omega)
 ·exact xk (by omega)
 refine dr.intro (fun n fr H=>∃k:Nat,k<=s.length/\n=s.length-k/\vd s k/\fr=[(34,I k),(33,I s.length),(32,roI s),(3,I s.length),(1,.ptr 0 0)]/\H=[(0,.cells 24 (.lst [roI s,roI m,I L]))]) ?_ ?_
 ·refine⟨_,_,_,?_,0,by omega,rfl,(fun i hi=>by omega),rfl,rfl⟩;refine Wk.sub ?_ ?_<;>simp only[go_sem]
 rintro n fr H ⟨k,hk,rfl,my,rfl,rfl⟩
 repeat' (first|omega|(try apply ah);simp only[go_sem]|apply ag<;>(intro h_;(try simp only[h_]);revert h_)|apply zO|with_reducible intro h_|trivial)
 ·exact xk fun hv=>by have:=hv.2.2.2.2.1 k (by omega);omega
 ·refine⟨_,_,_,?_,?_,⟨k+1,by omega,rfl,UG my (by omega),rfl,rfl⟩⟩
  ·omega
  ·refine Wk.sub ?_ ?_<;>simp only[go_sem]
 ·refine⟨_,_,_,?_,?_,⟨k+1,by omega,rfl,UG my (by omega),rfl,rfl⟩⟩
  ·omega
  ·refine Wk.sub ?_ ?_<;>simp only[go_sem]
 obtain rfl:k=s.length:=by omega
 refine dr.intro (fun n fr H=>∃k:Nat,k<=m.length/\n=m.length-k/\xd s m k/\fr=[(48,I k),(47,I m.length),(46,roI m),(3,I s.length),(1,.ptr 0 0)]/\H=[(0,.cells 24 (.lst [roI s,roI m,I L]))]) ?_ ?_
 ·refine⟨_,_,_,?_,0,by omega,rfl,(fun i hi=>by omega),rfl,rfl⟩;refine Wk.sub ?_ ?_<;>simp only[go_sem]
 rintro n fr H ⟨h,hh,rfl,wb,rfl,rfl⟩
 repeat' (first|omega|(first|apply ah|refine aw ZY ?_|refine gH ZX ?_|skip);simp only[go_sem]|apply ag<;>(intro h_;(try simp only[h_]);revert h_)|apply zO|with_reducible intro h_|trivial)
 ·exact xk fun hv=>by have:=hv.2.2.2.2.2 h (by omega);omega
 ·have h4:m.getD h 0<4*s.length:=by assumption
  refine⟨dd.fn rfl (Up s m L h (by omega) (by omega) (by omega)) ?_⟩
  repeat' (first|omega|(try apply ah);simp only[go_sem]|apply ag<;>(intro h_;(try simp only[h_]);revert h_)|apply zO|with_reducible intro h_|trivial)
  refine⟨dd.fn rfl (Up s m L (m.getD h 0) (by assumption) h4 (by omega)) ?_⟩
  repeat' (first|omega|(try apply ah);simp only[go_sem]|apply ag<;>(intro h_;(try simp only[h_]);revert h_)|apply zO|with_reducible intro h_|trivial)
  ·exact xk fun hv=>by have:=hv.2.2.2.2.2 h (by omega);simp_all
  ·refine⟨_,_,_,?_,?_,⟨h+1,by omega,rfl,Y7 wb ⟨by assumption,h4,by assumption,by assumption,by assumption⟩,rfl,rfl⟩⟩
   ·omega
   ·refine Wk.sub ?_ ?_<;>simp only[go_sem]
 ·exact xk fun hv=>by have:=hv.2.2.2.2.2 h (by omega);omega
 ·exact xk fun hv=>by have:=hv.2.2.2.2.2 h (by omega);omega
 ·exact xk fun hv=>by have:=hv.2.2.2.2.2 h (by omega);omega
 ·have hm:m.length=4*s.length:=by omega
  obtain rfl:h=4*s.length:=by omega
  refine⟨aL.fn rfl (YY s m L (by omega) ⟨hm,fun i hi=>⟨(wb i hi).1,(wb i hi).2.1⟩⟩) ?_⟩
  repeat' (first|omega|(try apply ah);simp only[go_sem]|apply ag<;>(intro h_;(try simp only[h_]);revert h_)|apply zO|with_reducible intro h_|trivial)
  exact vbT ⟨by omega,hm,by assumption,by assumption,my,wb⟩
abbrev dgC(s m:List Int)(L:Int):Cs:= .lst [roI s,roI m,I L]
attribute [go_sem] dgC
theorem zp(h:Int)(h0:0<=h)(h1:h<=100000):Fn Tryz.prog 77 [I h] (I (kH h 2)):=by
 refine Fn.intro [.tmp 2] Tryz.func77 rfl rfl (by decide) (by simp[Tryz.ntmps77]) ?_;rw[Tryz.ntmps77]
 repeat' (first|omega|(try apply ah);simp only[go_sem]|apply ag<;>(intro h_;(try simp only[h_]);revert h_)|apply zO|with_reducible intro h_|trivial)
 refine⟨aL.fn rfl (Iy h 2 h0 h1) ?_⟩
 repeat' (first|omega|(try apply ah);simp only[go_sem]|apply ag<;>(intro h_;(try simp only[h_]);revert h_)|apply zO|with_reducible intro h_|trivial)
theorem Fx{x:AV}(h:p1 x=true):p3 x=true:=by cases x<;>first|rfl|cases h
theorem Fw{x:AV}(H:Hp)(h:p1 x=true):s1 H x=true:=by cases x<;>first|rfl|cases h
theorem Fv{x:AV}(H:Hp)(h:p1 x=true):s2 H x=true:=by cases x<;>first|rfl|cases h
theorem y6x{x:AV}(H:Hp)(n:Nat)(h:p1 x=true):snap H (n+1) x=x:=by cases x<;>first|rfl|cases h
theorem y28{x:AV}(H:Hp)(n:Nat)(h:p1 x=true):dO H (n+1) x:=by cases x<;>first|trivial|cases h
theorem ZW{x:AV}(H:Hp)(n:Nat)(h:p1 x=true):cH H (n+1) x=x:=by cases x<;>first|rfl|cases h
theorem y6y{x:AV}(H:Hp)(n:Nat)(h:p1 x=true):cO H (n+1) x:=by cases x<;>first|trivial|cases h
section
variable{c:List AV}(h:c.all p1=true)
include h
theorem U3:c.all p3=true:=zZ.2 fun x hx=>Fx (zZ.1 h x hx)
theorem xK(H:Hp):c.all (s1 H)=true:=zZ.2 fun x hx=>Fw H (zZ.1 h x hx)
theorem xL(H:Hp):c.all (s2 H)=true:=zZ.2 fun x hx=>Fv H (zZ.1 h x hx)
theorem y6z(H:Hp)(n:Nat):c.map (snap H (n+1))=c:=by
 conv=>rhs;rw[<-List.map_id c]
 exact List.map_congr_left fun x hx=>y6x H n (zZ.1 h x hx)
theorem y29(H:Hp)(n:Nat):(∀x∈c,dO H (n+1) x)=True:=eq_true fun x hx=>y28 H n (zZ.1 h x hx)
theorem ZV(H:Hp)(n:Nat):c.map (cH H (n+1))=c:=by
 conv=>rhs;rw[<-List.map_id c]
 exact List.map_congr_left fun x hx=>ZW H n (zZ.1 h x hx)
theorem y60(H:Hp)(n:Nat):(∀x∈c,cO H (n+1) x)=True:=eq_true fun x hx=>y6y H n (zZ.1 h x hx)
end
def swI(i j n:Nat):Nat:=if n=i then j else if n=j then i else n
theorem zj(i j n:Nat):swI i j (swI i j n)=n:=by
 unfold swI;by_cases h1:n=i
 ·rw[zM h1];by_cases h2:j=i
  ·rw[zM h2];omega
  ·rw[zL h2,zM rfl];omega
 ·rw[zL h1];by_cases h2:n=j
  ·rw[zM h2,zM rfl];omega
  ·rw[zL h2,zL h1,zL h2]
def swV(i j:Nat):Nat->AV->AV
 |0,x=>if p1 x then x else .any
 |n+1,x=>match x with
  |.sl es id off len=> .sl es (swI i j id) off len
  |.ptr id off=> .ptr (swI i j id) off
  |.mp id=> .mp (swI i j id)
  |.agg xs=> .agg (xs.map (swV i j n))
  |.tup xs=> .tup (xs.map (swV i j n))
  |.fn f xs=> .fn f (xs.map (swV i j n))
  |x=>x
def swO(i j:Nat):AObj->AObj
 |.cells t (.lst l)=> .cells t (.lst (l.map (swV i j 4)))
 |.imap t l=> .imap t (l.map fun q=>(q.1,swV i j 4 q.2))
 |.gmap t ck l=> .gmap t ck (l.map fun q=>(q.1,q.2.1,swV i j 4 q.2.2))
 |.iter m s sn la=> .iter (swI i j m) s sn la
 |o=>o
def swH(i j:Nat):Hp->Hp
 |[]=>[]
 |(k,o)::r=>(swI i j k,swO i j o)::swH i j r
def swF(i j:Nat):Fr->Fr
 |[]=>[]
 |(t,x)::r=>(t,swV i j 4 x)::swF i j r
theorem I4(i j:Nat):∀(H:Hp) (k:Nat),hget (swH i j H) (swI i j k)=(hget H k).map (swO i j)
 |[],k=>rfl
 |(n,o)::r,k=>by
  simp only[swH,hget];by_cases e:n=k
  ·subst e;simp
  ·have:¬swI i j n=swI i j k:=fun h=>e (by have:=congrArg (swI i j) h;rwa [zj,zj]at this)
   rw[zL this,zL e];exact I4 i j r k
theorem Tw(i j:Nat)(H:Hp)(k:Nat):hget (swH i j H) k=(hget H (swI i j k)).map (swO i j):=by
 have:=I4 i j H (swI i j k);rwa [zj]at this
theorem Mm(i j:Nat):∀(fr:Fr) (t:Nat),fget (swF i j fr) t=swV i j 4 (fget fr t)
 |[],t=>rfl
 |(s,x)::r,t=>by
  simp only[swF,fget]
  split
  ·rfl
  ·exact Mm i j r t
theorem EJ(i j:Nat)(o:AObj):(swO i j o).live=o.live:=by unfold swO;split<;>rfl
theorem U2{w:World}{M:Nat->Prop}{ρ ρ':Nat->Addr}{D D':Nat->Prop}{i j:Nat}(hD:∀k,D k->D' (swI i j k)/\ρ' (swI i j k)=ρ k):∀(n:Nat) (v:Value) (x:AV),VR w M ρ D v x->VR w M ρ' D' v (swV i j n x):=by
 intro n
 induction n with
 |zero=>
  intro v x hv;simp only[swV]
  split
  ·rename_i hp;exact hv.bP hp
  ·exact .any _
 |succ n ih=>
  intro v x hv;cases hv with
  |any v=>exact .any _
  |int k m=>exact .int _ _
  |bool b=>exact .bool _
  |str s=>exact .str _
  |nils=>exact .nils
  |mp id hd=>obtain⟨h1,h2⟩:=hD id hd;simp only[swV];rw[<-h2];exact .mp _ h1
  |ro es len c ad cap x hl hc he h0 hv=>exact VR.bP (VR.ro (D:=D) es len c ad cap x hl hc he h0 hv) rfl
  |rp c off b x hb hm hj hv=>exact VR.bP (VR.rp (D:=D) c off b x hb hm hj hv) rfl
  |ptr id off hd=>obtain⟨h1,h2⟩:=hD id hd;simp only[swV];rw[<-h2];exact .ptr _ _ h1
  |sl es id off len cap hd hc arr t ad ha hb hr=>
   obtain⟨h1,h2⟩:=hD id hd;exact .sl es (swI i j id) off len cap h1 hc arr t ad (fun h=>by rw[h2];exact ha h) (by rw[h2];exact hb) (by rw[h2];exact hr)
  |agg vs xs hl hx=>
   simp only[swV];refine .agg vs _ (by simp[hl]) fun k u y hu hy=>?_;simp only[zR]at hy;obtain⟨y',g1,rfl⟩:=zzB.1 hy;exact ih u y' (hx k u y' hu g1)
  |tup vs xs hl hx=>
   simp only[swV];refine .tup vs _ (by simp[hl]) fun k u y hu hy=>?_;simp only[zR]at hy;obtain⟨y',g1,rfl⟩:=zzB.1 hy;exact ih u y' (hx k u y' hu g1)
  |fn f vs xs hl hx=>
   simp only[swV];refine .fn f vs _ (by simp[hl]) fun k u y hu hy=>?_;simp only[zR]at hy;obtain⟨y',g1,rfl⟩:=zzB.1 hy;exact ih u y' (hx k u y' hu g1)
theorem y61{w:World}{M:Nat->Prop}{ρ ρ':Nat->Addr}{D D':Nat->Prop}{i j:Nat}(hD:∀k,D k->D' (swI i j k)/\ρ' (swI i j k)=ρ k){k:Nat}{o:AObj}(hi:D k)(h:fA w M ρ D k o):fA w M ρ' D' (swI i j k) (swO i j o):=by
 have hr:=U2 (w:=w) (M:=M) (ρ':=ρ') (D':=D') hD;have he:=(hD k hi).2;cases o with
 |gone=>trivial
 |cells t c=>
  obtain⟨e1,arr,e2,e3,e4⟩:=h;cases c with
  |ints l=>exact⟨by rw[he];exact e1,arr,by rw[he];exact e2,by rw[he];exact e3,fun j hj=>let ⟨u,hu,hx⟩:=e4 j hj;⟨u,by rw[he];exact hu,hx.bP rfl⟩⟩
  |bools l=>exact⟨by rw[he];exact e1,arr,by rw[he];exact e2,by rw[he];exact e3,fun j hj=>let ⟨u,hu,hx⟩:=e4 j hj;⟨u,by rw[he];exact hu,hx.bP rfl⟩⟩
  |lst l=>
   refine⟨by rw[he];exact e1,arr,by rw[he];exact e2,by rw[he];simpa [swO,Cs.len] using e3,fun n hj=>?_⟩;simp only[Cs.len,List.length_map]at hj;obtain⟨u,hu,hx⟩:=e4 n hj;refine⟨u,by rw[he];exact hu,?_⟩;simp only[Cs.get,zB,zJ hj,Option.getD_some]at hx
   have:=hr 4 u _ hx
   simpa [Cs.get,hj] using this
 |fmap t c=>
  obtain⟨k0,es,ck,k1,k2⟩:=h;exact⟨k0,es,ck,by rw[he];exact k1,k2⟩
 |gmap t ck l=>
  obtain⟨es,k1,k2,k3⟩:=h;refine⟨es,by rw[he];exact k1,by simpa using k2,fun j e q h1 h2=>?_⟩;simp only[zR]at h2;obtain⟨q',g1,g2⟩:=zzB.1 h2;cases g2;obtain⟨g3,g4,g5⟩:=k3 j e q' h1 g1;exact⟨g3,g4,hr 4 _ _ g5⟩
 |iter dB s sn la=>
  obtain⟨k1,k2,k3⟩:=h;obtain⟨d1,d2⟩:=hD dB k1;exact⟨d1,by rw[he];exact k2,by rw[he,d2];exact k3⟩
 |imap t l=>
  obtain⟨k0,es,ck,k1,k2,k3⟩:=h;refine⟨fun k x hx=>?_,es,ck,by rw[he];exact k1,by simpa using k2,fun j e k x h1 h2=>?_⟩
  ·obtain⟨q,g1,g2⟩:=zzE.1 hx;cases g2
   have:=k0 q.1 q.2 g1
   cases hq:q.2<;>rw[hq]at this<;>first|(cases this;done)|rfl
  simp only[zR]at h2;obtain⟨q,g1,g2⟩:=zzB.1 h2;cases g2;obtain⟨g3,g4,g5⟩:=k3 j e q.1 q.2 h1 g1;exact⟨g3,hr 4 _ _ g4,g5⟩
section
variable{B:Nat}{w0:js}{Mx:Nat->Prop}{N:Nat}{w:World}{ρ:Nat->Addr}{fr:Fr}{H:Hp}{a:Act}
theorem aO.swap(h:aO B w0 Mx N w ρ fr H a)(i j:Nat):aO B w0 Mx N w (fun k=>ρ (swI i j k)) (swF i j fr) (swH i j H) a:=by
 have hg:∀k o,hget (swH i j H) k=some o->∃o',hget H (swI i j k)=some o'/\o=swO i j o':=fun k o hk=>by
  rw[Tw]at hk;obtain⟨o',h1,h2⟩:=zzB.1 hk;exact⟨o',h1,h2.symm⟩
 have hM:MM Mx (swH i j H) (fun k=>ρ (swI i j k))=MM Mx H ρ:=by
  funext b;apply propext;constructor
  ·rintro (g|⟨id,o,g1,g2,g3⟩)
   ·exact .inl g
   ·obtain⟨o',k1,rfl⟩:=hg id o g1;exact .inr ⟨_,o',k1,by rw[EJ]at g2;exact g2,g3⟩
  ·rintro (g|⟨id,o,g1,g2,g3⟩)
   ·exact .inl g
   ·exact .inr ⟨swI i j id,swO i j o,by rw[I4,g1];rfl,by rw[EJ];exact g2,by show (ρ (swI i j (swI i j id))).block=b;rw[zj];exact g3⟩
 have hD:∀k,DD H k->DD (swH i j H) (swI i j k)/\(fun k=>ρ (swI i j k)) (swI i j k)=ρ k:=fun k ⟨o,ho⟩=>⟨⟨swO i j o,by rw[I4,ho];rfl⟩,by show ρ (swI i j (swI i j k))=ρ k;rw[zj]⟩;refine⟨h.below,h.hB,h.mx,fun id o ho hl=>?_,fun id o ho=>?_,fun id o bO o' ho hl As DG e=>?_,fun t=>?_,h.defers,h.size⟩
 ·obtain⟨o',k1,rfl⟩:=hg id o ho;exact h.own _ o' k1 (by rw[EJ]at hl;exact hl)
 ·obtain⟨o',k1,rfl⟩:=hg id o ho
  have:=y61 (w:=w) (M:=MM Mx H ρ) (ρ':=fun k=>ρ (swI i j k)) hD ⟨o',k1⟩ (h.objs _ o' k1)
  rw[zj]at this;rw[hM];exact this
 ·obtain⟨q,k1,rfl⟩:=hg id o ho;obtain⟨q',k1',rfl⟩:=hg bO o' As
  have:=h.inj _ q _ q' k1 (by rw[EJ]at hl;exact hl) k1' (by rw[EJ]at DG;exact DG) e
  have:=congrArg (swI i j) this
  rwa [zj,zj]at this
 ·rw[hM,Mm];exact U2 hD 4 _ _ (h.frv t)
end
theorem Wk.swap(i j:Nat)(fr:Fr)(H:Hp):Wk fr H (swF i j fr) (swH i j H):=fun _ _ _ _ _ ρ _ hs=>⟨fun k=>ρ (swI i j k),hs.swap i j⟩
theorem Wk.Bi(i j:Nat){fr fr' fr1:Fr}{H H' H1:Hp}(e1:swF i j fr'=fr1)(e2:swH i j H'=H1)(e3:swF i j fr1=fr')(e4:swH i j H1=H')(hf:subF fr H1 fr1)(hh:subH H H1 H1):Wk fr H fr' H':=by
 have:=(Wk.sub hf hh).trans (Wk.swap i j fr1 H1)
 rwa [e3,e4]at this
attribute [go_sem] swI swV swO swH swF
end Go.Proofs.YthohfoombimbeaaGreatDoor
