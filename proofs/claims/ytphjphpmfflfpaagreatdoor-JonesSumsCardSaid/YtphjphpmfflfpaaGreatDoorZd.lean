/- Layer 17: follow: the new pairing, and the circles that are closed. -/
import Derived.Test.YtphjphpmfflfpaaGreatDoorZb
import Derived.Test.YtphjphpmfflfpaaGreatDoorZc
import Derived.Test.YtphjphpmfflfpaaGreatDoorGc
set_option linter.unusedSimpArgs false
set_option linter.unusedVariables false
namespace Go.Proofs.YtphjphpmfflfpaaGreatDoor
open Go Go.RowKit
set_option maxRecDepth 100000
set_option maxHeartbeats 8000000
abbrev gF (bt:Nat) (T:List Nat) (J:List Int) (x:Nat):Nat:=(kY bt T J x).toNat
abbrev aO (glue:List Int) (x:Nat):Int:=glue.getD x 0
theorem NG (n:Nat):(List.replicate n [AV.int .u8 0]).flatten=(List.replicate n (0:Int)).map (AV.int .u8):=by
 induction n with
 |zero=>rfl
 |succ n ih=>rw [List.replicate_succ,List.flatten_cons,ih,List.replicate_succ];rfl
theorem VJ {ts:List Int} {x:AV} (h:x∈ts.map (AV.int .u8)): ∃n,x= .int .u8 n:=by
 obtain ⟨n,_,rfl⟩:=List.mem_map.1 h;exact ⟨n,rfl⟩
theorem xJ (ts:List Int):(ts.map (AV.int .u8)).all p1=true:=List.all_eq_true.2 fun x hx=>by obtain ⟨n,rfl⟩:=VJ hx;rfl
theorem s6 (H:Hp) (ts:List Int):(ts.map (AV.int .u8)).all (s3 H)=true:=List.all_eq_true.2 fun x hx=>by obtain ⟨n,rfl⟩:=VJ hx;rfl
theorem MA (H:Hp) (n:Nat) (ts:List Int):(ts.map (AV.int .u8)).map (bg H (n+1))=ts.map (AV.int .u8):=ij (xJ ts) H n
theorem NF (H:Hp) (n:Nat) (ts:List Int):(∀x∈ts.map (AV.int .u8),bx H (n+1) x)=True:=ik (xJ ts) H n
theorem VI (ts:List Int) (i:Nat) (v:Int):(ts.map (AV.int .u8)).set i (.int .u8 v)=(ts.set i v).map (AV.int .u8):=List.map_set.symm
structure yQ (bt:Nat) (glue index:List Int) (E:Nat) (T:List Nat) (J:List Int):Prop where
 gl:glue.length=bt+4
 il:index.length=bt+4
 hT:T.length=bt
 hb: ∀i∈T,i<100
 hJ:J.length=4
 Qv: ∀i,0<=J.getD i 0/\J.getD i 0<=3
 hc:bt<=90
 hE:E<=99
 gr: ∀x,x<bt+4-> -1<=glue.getD x 0/\glue.getD x 0<bt+4
 ix: ∀x,x<bt+4->(0<=glue.getD x 0->index.getD x 0= -1)/\(glue.getD x 0<0->0<=index.getD x 0/\index.getD x 0<E)
 ar: ∀x,x<bt+4->0<=kY bt T J x/\kY bt T J x<bt+4
 hP: ∀k,k<bt+4->glue.getD k 0<0-> ∃ys e,lr (gF bt T J) (aO glue) k ys e/\ys.length<=bt+4
 hC: ∀k,k<bt+4->0<=glue.getD k 0->(bU (bt+4) (gF bt T J) (aO glue) (endN (bt+4) (gF bt T J) (aO glue) (bt+4)) k).1.getD k false=false-> ∃zs,vG (gF bt T J) (aO glue) (bU (bt+4) (gF bt T J) (aO glue) (endN (bt+4) (gF bt T J) (aO glue) (bt+4)) k).1 k zs/\zs.length<=bt+4
theorem lr.QO {arc:Nat->Nat} {glue:Nat->Int} {W:Nat} (fO: ∀x,x<W->arc x<W) (P0: ∀x,x<W->0<=glue x->(glue x).toNat<W) {u e:Nat} {ys:List Nat} (h:lr arc glue u ys e):u<W->e<W/\glue e<0:=by
 induction h with
 |nil h=>exact fun hu=>⟨fO _ hu,h⟩
 |cons h k ih=>exact fun hu=>ih (P0 _ (fO _ hu) h)
theorem y42 (bt:Nat) (glue index ends:List Int) (T:List Nat) (J:List Int) (h:yQ bt glue index ends.length T J):
  Fn Tryz.prog 176 [.agg [I bt,roI glue,roI index,roI ends], .str (pS T), .agg (J.map (AV.int .i64))]
   (.tup [.str (pN (txN (gF bt T J) (aO glue) (fun x=>index.getD x 0) (bt+4) ends.length (bt+4))),I (bU (bt+4) (gF bt T J) (aO glue) (endN (bt+4) (gF bt T J) (aO glue) (bt+4)) (bt+4)).2]):=by
 obtain ⟨j0,j1,j2,j3,rfl⟩: ∃j0 j1 j2 j3,J=[j0,j1,j2,j3]:=by
  have:=h.hJ
  match J,this with
  |[a,b,c,d],_=>exact ⟨a,b,c,d,rfl⟩
 have hA:=fun x (hx:x<bt+4)=>ME bt x glue index ends T [j0,j1,j2,j3] h.hT h.hb h.hJ h.Qv hx (by have:=h.hc;omega);have QE: ∀x,x<bt+4->kY bt T [j0,j1,j2,j3] x=(gF bt T [j0,j1,j2,j3] x:Int)/\gF bt T [j0,j1,j2,j3] x<bt+4:=fun x hx=>by have:=h.ar x hx;unfold gF;exact ⟨by omega,by omega⟩
 obtain ⟨IB,fi,_,_,_,_,hc90,hE99,P0,Iz,_,hP,hC⟩:=h;have QG: ∀x,x<bt+4->Fn Tryz.prog 193 [I x, .rp (.lst [I bt,roI glue,roI index,roI ends]) 0, .rp (.lst [.str (pS T)]) 0, .rp (.lst [I j0,I j1,I j2,I j3]) 0] (I (gF bt T [j0,j1,j2,j3] x:Nat)):=fun x hx=>by
  have:=hA x hx
  rw [(QE x hx).1] at this;exact this
 have QF:=fun x hx=>(QE x hx).2;clear hA QE;generalize gF bt T [j0,j1,j2,j3]=arc at*;have Qo:bt+4<=94:=by omega
 generalize hWd:bt+4=W at*;obtain ⟨S,hS⟩: ∃S,S=Cs.lst [I bt,roI glue,roI index,roI ends]:=⟨_,rfl⟩;have P4: ∀x,x<W->0<=aO glue x->(aO glue x).toNat<W/\((aO glue x).toNat:Int)=aO glue x:=fun x hx h0=>by
  have:=P0 x hx
  unfold aO at*;exact ⟨by omega,by omega⟩
 refine Fn.aq [.tmp 6, .tmp 7] Tryz.func176 rfl rfl (by decide) (by simp [Tryz.ntmps176]) ?_;rw [Tryz.ntmps176]
 repeat' (first|omega|(try apply ag);simp only [go_sem,sevalprocAttr,NG,Int.toNat_natCast]|apply ah<;>(intro h_;(try simp only [h_]);revert h_)|apply ai|apply aj|apply ae|apply And.intro|with_reducible intro h_|trivial|simp only [go_sem,ak];omega)
 refine bV.intro (fun n fr H=> ∃k:Nat,k<=W/\n=W-k/\fr=[(31,I k),(30,I index.length),(29,roI index),(10, .sl 1 4 0 ends.length),(9, .sl 1 3 0 glue.length),(8, .fn 193 [.rp (.lst [I bt,roI glue,roI index,roI ends]) 0, .rp (.lst [.str (pS T)]) 0, .rp (.lst [I j0,I j1,I j2,I j3]) 0]),(3, .rp (.lst [I bt,roI glue,roI index,roI ends]) 0)]/\H=[(4, .cells 5 (.lst ((txN arc (aO glue) (fun x=>index.getD x 0) W ends.length k).map (AV.int .u8)))),(3, .cells 4 (.bools (endN W arc (aO glue) k)))]) ?_ ?_
 ·refine ⟨_,_,_,?_,0,by omega,rfl,rfl,rfl⟩;refine Wk.trans (Wk.ln [0,1,2] ?_ ?_ rfl rfl) (Wk.sub ?_ ?_)
  all_goals (simp only [go_sem,sevalprocAttr,txN,endN,IB,Int.toNat_natCast,s6,MA,NF])
 rintro n fr H ⟨k,hk,rfl,rfl,rfl⟩;have tl:=zb arc (aO glue) (fun x=>index.getD x 0) W ends.length k;have sl:=Hi W arc (aO glue) k;by_cases Cu:k<W
 ·have bk:decide ((k:Int)<index.length)=true:=by simp;omega
  have E0:=Iz k Cu;by_cases hg:0<=glue.getD k 0
  ·have h1:=E0.1 hg;have b1:decide (index.getD k 0<0)=true:=by rw [decide_eq_true_eq];omega
   have e1:txN arc (aO glue) (fun x=>index.getD x 0) W ends.length (k+1)=txN arc (aO glue) (fun x=>index.getD x 0) W ends.length k:=by simp only [txN];rw [if_pos (by omega)]
   have e2:endN W arc (aO glue) (k+1)=endN W arc (aO glue) k:=by simp only [endN];rw [if_pos (show 0<=aO glue k from hg)]
   repeat' (first|omega|(try apply ag);simp only [go_sem,sevalprocAttr,bk,b1]|apply ah<;>(intro h_;(try simp only [h_]);revert h_)|apply ai|apply aj|apply ae|apply And.intro|with_reducible intro h_|trivial|simp only [go_sem,ak];omega)
   refine ⟨_,_,_,?_,?_,⟨k+1,by omega,rfl,rfl,rfl⟩⟩
   ·omega
   ·rw [e1,e2];refine Wk.sub ?_ ?_<;>(simp only [go_sem,sevalprocAttr,s6])
  ·have h1:=E0.2 (by omega);have b1:decide (index.getD k 0<0)=false:=by rw [decide_eq_false_iff_not];omega
   obtain ⟨ys,e,hp,lI⟩:=hP k Cu (by omega);have aQ:=BI hp (W+1) (endN W arc (aO glue) k) (by omega);have qK:=BI hp (W+1) [] (by omega);obtain ⟨heW,heg⟩:=hp.QO QF (fun x hx h0=>(P4 x hx h0).1) Cu;have e1:txN arc (aO glue) (fun x=>index.getD x 0) W ends.length (k+1)=(txN arc (aO glue) (fun x=>index.getD x 0) W ends.length k).set (index.getD k 0).toNat (97+index.getD e 0):=by
    simp only [txN];rw [if_neg (by omega),qK]
   have e2:endN W arc (aO glue) (k+1)=ys.foldl (cV (aO glue)) (endN W arc (aO glue) k):=by
    simp only [endN];rw [if_neg (show¬0<=aO glue k from hg),aQ]
   generalize txN arc (aO glue) (fun x=>index.getD x 0) W ends.length k=ts at*;generalize endN W arc (aO glue) k=qz at*;have hAk:=QG k Cu
   repeat' (first|omega|(try apply ag);simp only [go_sem,sevalprocAttr,bk,b1]|apply ah<;>(intro h_;(try simp only [h_]);revert h_)|apply ai|apply aj|apply ae|apply And.intro|with_reducible intro h_|trivial|simp only [go_sem,ak];omega)
   refine ⟨aA.fn rfl hAk ?_⟩
   repeat' (first|omega|(try apply ag);simp only [go_sem,sevalprocAttr,bk,b1]|apply ah<;>(intro h_;(try simp only [h_]);revert h_)|apply ai|apply aj|apply ae|apply And.intro|with_reducible intro h_|trivial|simp only [go_sem,ak];omega)
   refine bV.intro (fun n fr H=> ∃(u:Nat) (zs:List Nat) (sn:List Bool),n=zs.length/\u<W/\lr arc (aO glue) u zs e/\sn.length=W/\zs.foldl (cV (aO glue)) sn=ys.foldl (cV (aO glue)) qz/\fr=[(13,I (arc u:Nat)),(12,I (index.getD k 0)),(31,I k),(30,I index.length),(29,roI index),(10, .sl 1 4 0 ends.length),(9, .sl 1 3 0 glue.length),(8, .fn 193 [.rp (.lst [I bt,roI glue,roI index,roI ends]) 0, .rp (.lst [.str (pS T)]) 0, .rp (.lst [I j0,I j1,I j2,I j3]) 0]),(3, .rp (.lst [I bt,roI glue,roI index,roI ends]) 0)]/\H=[(4, .cells 5 (.lst (ts.map (AV.int .u8)))),(3, .cells 4 (.bools sn))]) ?_ ?_
   ·refine ⟨_,_,_,?_,k,ys,qz,rfl,Cu,hp,sl,rfl,rfl,rfl⟩;refine Wk.sub ?_ ?_<;>(simp only [go_sem,sevalprocAttr,s6])
   rintro n fr H ⟨u,zs,sn,rfl,hu,hpz,cL,e9,rfl,rfl⟩;have XL:=QF u hu;cases hpz with
   |nil hn=>
    have b2:decide (0<=glue.getD (arc u) 0)=false:=by have:aO glue (arc u)=glue.getD (arc u) 0:=rfl;rw [decide_eq_false_iff_not];omega
    have Xu:=(Iz (arc u) XL).2 hn;have w1:IntKind.u8.wrap (97+index.getD (arc u) 0)=97+index.getD (arc u) 0:=IntWalk.u8_in _ (by omega);simp only [List.foldl_nil] at e9;rw [←e9] at e2
    repeat' (first|omega|(try apply ag);simp only [go_sem,sevalprocAttr,b2,w1,VI,List.length_map,Int.toNat_natCast]|apply ah<;>(intro h_;(try simp only [h_]);revert h_)|apply ai|apply aj|apply ae|apply And.intro|with_reducible intro h_|trivial|simp only [go_sem,ak];omega)
    refine ⟨_,_,_,?_,?_,⟨k+1,by omega,rfl,rfl,rfl⟩⟩
    ·omega
    ·rw [e1,e2];refine Wk.sub ?_ ?_<;>(simp only [go_sem,sevalprocAttr,s6,VI])
   | @cons _ _ ys' hc rQ=>
     obtain ⟨zW,ze⟩:=P4 (arc u) XL hc;have b2:decide (0<=glue.getD (arc u) 0)=true:=by have:aO glue (arc u)=glue.getD (arc u) 0:=rfl;rw [decide_eq_true_eq];omega
     have hz:glue.getD (arc u) 0=((aO glue (arc u)).toNat:Int):=ze.symm;have QD:=QG _ zW;rw [List.foldl_cons] at e9;have eZ:cV (aO glue) sn (arc u)=(sn.set (arc u) true).set (aO glue (arc u)).toNat true:=rfl;generalize (aO glue (arc u)).toNat=z at*
     repeat' (first|omega|(try apply ag);simp only [go_sem,sevalprocAttr,b2,hz,List.length_set,Int.toNat_natCast]|apply ah<;>(intro h_;(try simp only [h_]);revert h_)|apply ai|apply aj|apply ae|apply And.intro|with_reducible intro h_|trivial|simp only [go_sem,ak];omega)
     refine ⟨aA.fn rfl QD ?_⟩
     repeat' (first|omega|(try apply ag);simp only [go_sem,sevalprocAttr,b2,hz]|apply ah<;>(intro h_;(try simp only [h_]);revert h_)|apply ai|apply aj|apply ae|apply And.intro|with_reducible intro h_|trivial|simp only [go_sem,ak];omega)
     refine ⟨_,_,_,?_,?_,z,ys',_,rfl,zW,rQ,?_,e9,rfl,rfl⟩
     ·simp
     ·rw [eZ];refine Wk.sub ?_ ?_<;>(simp only [go_sem,sevalprocAttr,s6])
     ·rw [Hj];exact cL
 obtain rfl:k=W:=by omega
 have bk:decide ((k:Int)<index.length)=false:=by simp;omega
 generalize yh:txN arc (aO glue) (fun x=>index.getD x 0) k ends.length k=ts at*;have bO:=fun j=>Hh k arc (aO glue) (endN k arc (aO glue) k) j;have Fh:=fun j=>Kd k arc (aO glue) (endN k arc (aO glue) k) j;have qP:bU k arc (aO glue) (endN k arc (aO glue) k) 0=(endN k arc (aO glue) k,0):=rfl
 have fA: ∀j,bU k arc (aO glue) (endN k arc (aO glue) k) (j+1)=if aO glue j<0\/(bU k arc (aO glue) (endN k arc (aO glue) k) j).1.getD j false=true then bU k arc (aO glue) (endN k arc (aO glue) k) j else (nj arc (aO glue) (k+1) (bU k arc (aO glue) (endN k arc (aO glue) k) j).1 j,(bU k arc (aO glue) (endN k arc (aO glue) k) j).2+1):=fun j=>rfl
 generalize bU k arc (aO glue) (endN k arc (aO glue) k)=C at*;generalize endN k arc (aO glue) k=qz at*;have XH:ts.length=ends.length:=tl
 repeat' (first|omega|(try apply ag);simp only [go_sem,sevalprocAttr,bk]|apply ah<;>(intro h_;(try simp only [h_]);revert h_)|apply ai|apply aj|apply ae|apply And.intro|with_reducible intro h_|trivial|simp only [go_sem,ak];omega)
 refine bV.intro (fun n fr H=> ∃j:Nat,j<=k/\n=k-j/\fr=[(75,I j),(74,I glue.length),(73,roI glue),(15,I (C j).2),(10, .sl 1 4 0 ends.length),(9, .sl 1 3 0 glue.length),(8, .fn 193 [.rp (.lst [I bt,roI glue,roI index,roI ends]) 0, .rp (.lst [.str (pS T)]) 0, .rp (.lst [I j0,I j1,I j2,I j3]) 0]),(3, .rp (.lst [I bt,roI glue,roI index,roI ends]) 0)]/\H=[(4, .cells 5 (.lst (ts.map (AV.int .u8)))),(3, .cells 4 (.bools (C j).1))]) ?_ ?_
 ·refine ⟨_,_,_,?_,0,by omega,rfl,rfl,rfl⟩;rw [qP];refine Wk.sub ?_ ?_<;>(simp only [go_sem,sevalprocAttr,s6])
 rintro n fr H ⟨j,hj,rfl,rfl,rfl⟩;by_cases qa:j<k
 ·have bj:decide ((j:Int)<glue.length)=true:=by simp;omega
  have hl:=bO j;have hle:=Fh j;have hs:=fA j;have X4:=hC j qa;generalize hCe:C j=C0 at*;obtain ⟨sn,c⟩:=C0;simp only at hl hle hs X4;by_cases hg:glue.getD j 0<0
  ·have b1:decide (glue.getD j 0<0)=true:=by rw [decide_eq_true_eq];exact hg
   rw [if_pos (.inl hg)] at hs
   repeat' (first|omega|(try apply ag);simp only [go_sem,sevalprocAttr,bj,b1]|apply ah<;>(intro h_;(try simp only [h_]);revert h_)|apply ai|apply aj|apply ae|apply And.intro|with_reducible intro h_|trivial|simp only [go_sem,ak];omega)
   refine ⟨_,_,_,?_,?_,⟨j+1,by omega,rfl,rfl,rfl⟩⟩
   ·omega
   ·rw [hs];refine Wk.sub ?_ ?_<;>(simp only [go_sem,sevalprocAttr,s6])
  ·have b1:decide (glue.getD j 0<0)=false:=by rw [decide_eq_false_iff_not];exact hg
   cases iK:sn.getD j false with
   |true=>
    rw [if_pos (.inr iK)] at hs
    repeat' (first|omega|(try apply ag);simp only [go_sem,sevalprocAttr,bj,b1,iK]|apply ah<;>(intro h_;(try simp only [h_]);revert h_)|apply ai|apply aj|apply ae|apply And.intro|with_reducible intro h_|trivial|simp only [go_sem,ak];omega)
    refine ⟨_,_,_,?_,?_,⟨j+1,by omega,rfl,rfl,rfl⟩⟩
    ·omega
    ·rw [hs];refine Wk.sub ?_ ?_<;>(simp only [go_sem,sevalprocAttr,s6])
   |false=>
    rw [if_neg (by rw [iK];simp;exact Int.not_lt.1 hg)] at hs;obtain ⟨zs,rS,zI⟩:=X4 (Int.not_lt.1 hg) iK;have vB:=SO rS (k+1) (by omega);rw [vB] at hs
    repeat' (first|omega|(try apply ag);simp only [go_sem,sevalprocAttr,bj,b1,iK]|apply ah<;>(intro h_;(try simp only [h_]);revert h_)|apply ai|apply aj|apply ae|apply And.intro|with_reducible intro h_|trivial|simp only [go_sem,ak];omega)
    refine bV.intro (fun n fr H=> ∃(z:Nat) (FX:List Nat) (s1:List Bool),n=FX.length/\z<k/\vG arc (aO glue) s1 z FX/\s1.length=k/\FX.foldl (cV (aO glue)) s1=zs.foldl (cV (aO glue)) sn/\fr=[(18,I z),(75,I j),(74,I glue.length),(73,roI glue),(15,I ((c:Int)+1)),(10, .sl 1 4 0 ends.length),(9, .sl 1 3 0 glue.length),(8, .fn 193 [.rp (.lst [I bt,roI glue,roI index,roI ends]) 0, .rp (.lst [.str (pS T)]) 0, .rp (.lst [I j0,I j1,I j2,I j3]) 0]),(3, .rp (.lst [I bt,roI glue,roI index,roI ends]) 0)]/\H=[(4, .cells 5 (.lst (ts.map (AV.int .u8)))),(3, .cells 4 (.bools s1))]) ?_ ?_
    ·refine ⟨_,_,_,?_,j,zs,sn,rfl,qa,rS,by omega,rfl,rfl,rfl⟩;refine Wk.sub ?_ ?_<;>(simp only [go_sem,sevalprocAttr,s6])
    rintro n fr H ⟨z,FX,s1,rfl,hz,Aq,Pu,e9,rfl,rfl⟩;cases Aq with
    |stop bH=>
     simp only [List.foldl_nil] at e9
     repeat' (first|omega|(try apply ag);simp only [go_sem,sevalprocAttr,bH]|apply ah<;>(intro h_;(try simp only [h_]);revert h_)|apply ai|apply aj|apply ae|apply And.intro|with_reducible intro h_|trivial|simp only [go_sem,ak];omega)
     refine ⟨_,_,_,?_,?_,⟨j+1,by omega,rfl,rfl,rfl⟩⟩
     ·omega
     ·rw [hs,e9];have ec:((c+1:Nat):Int)=(c:Int)+1:=by omega
      refine Wk.sub ?_ ?_<;>(simp only [go_sem,sevalprocAttr,s6,ec])
    | @step _ _ Yf bH tV rQ=>
      obtain ⟨gW,ge⟩:=P4 z hz tV;have tU:glue.getD z 0=((aO glue z).toNat:Int):=ge.symm;have QD:=QG _ gW;rw [List.foldl_cons] at e9;have eZ:cV (aO glue) s1 z=(s1.set z true).set (aO glue z).toNat true:=rfl;have Qm:=QF _ gW;generalize (aO glue z).toNat=y at*
      repeat' (first|omega|(try apply ag);simp only [go_sem,sevalprocAttr,bH,tU,List.length_set,Int.toNat_natCast]|apply ah<;>(intro h_;(try simp only [h_]);revert h_)|apply ai|apply aj|apply ae|apply And.intro|with_reducible intro h_|trivial|simp only [go_sem,ak];omega)
      refine ⟨aA.fn rfl QD ?_⟩
      repeat' (first|omega|(try apply ag);simp only [go_sem,sevalprocAttr,bH,tU]|apply ah<;>(intro h_;(try simp only [h_]);revert h_)|apply ai|apply aj|apply ae|apply And.intro|with_reducible intro h_|trivial|simp only [go_sem,ak];omega)
      refine ⟨_,_,_,?_,?_,arc y,Yf,_,rfl,Qm,rQ,?_,e9,rfl,rfl⟩
      ·simp
      ·rw [eZ];refine Wk.sub ?_ ?_<;>(simp only [go_sem,sevalprocAttr,s6])
      ·rw [Hj];exact Pu
 ·obtain rfl:j=k:=by omega
  have bj:decide ((j:Int)<glue.length)=false:=by simp;omega
  have hle:=Fh j;generalize (C j).1=snf at*;generalize (C j).2=cf at*
  repeat' (first|omega|(try apply ag);simp only [go_sem,sevalprocAttr,bj]|apply ah<;>(intro h_;(try simp only [h_]);revert h_)|apply ai|apply aj|apply ae|apply And.intro|with_reducible intro h_|trivial|simp only [go_sem,ak];omega)
  refine fb.QV (e:=5) (ts:=ts) (t:=5) rfl rfl (by simp only [go_sem,sevalprocAttr]) (by simp only [go_sem,sevalprocAttr]) (by simp only [go_sem,sevalprocAttr]) (by rw [XH];rfl) rfl ?_
  repeat' (first|omega|(try apply ag);simp only [go_sem,sevalprocAttr]|apply ah<;>(intro h_;(try simp only [h_]);revert h_)|apply ai|apply aj|apply ae|apply And.intro|with_reducible intro h_|trivial|simp only [go_sem,ak];omega)
  all_goals exact aR.refl _
end Go.Proofs.YtphjphpmfflfpaaGreatDoor
namespace Go.Proofs.YtphjphpmfflfpaaGreatDoor
def bY (ends:List Int) (c:Int):List Int:=ends++[4*c,4*c+1,4*c+2,4*c+3]
theorem sq (ends:List Int) (c:Int):(bY ends c).length=ends.length+4:=by simp [bY]
def ndF (hs:List Int):Nat->Int->Option Int
 |0=>fun _=>none
 |k+1=>fun h=>if h=hs.getD k 0 then some (k:Int) else ndF hs k h
def fD (hs m:List Int) (x:Nat):Option Int:=ndF hs hs.length (m.getD (hs.getD x 0).toNat 0)
def bh (hs m:List Int):Nat->List Int
 |0=>[]
 |k+1=>if (fD hs m k).isSome then bh hs m k else bh hs m k++[hs.getD k 0]
def lg (hs m:List Int) (x:Nat):Int:=(fD hs m x).getD (-1)
def nR (hs m:List Int) (x:Nat):Int:=if (fD hs m x).isSome then-1 else (bh hs m x).length
def di (f:Nat->Int) (W k:Nat):List Int:=(List.range W).map fun x=>if x<k then f x else 0
theorem Dl (f:Nat->Int) (W k:Nat):(di f W k).length=W:=by simp [di]
theorem VH (f:Nat->Int) (W:Nat):di f W 0=List.replicate W 0:=by
 apply List.ext_getElem?;intro i;by_cases h:i<W<;>simp [di,h]
theorem SH (f:Nat->Int) (W k:Nat) (h:k<W):(di f W k).set k (f k)=di f W (k+1):=by
 apply List.ext_getElem?;intro i;rw [List.getElem?_set,Dl];by_cases e:k=i
 ·subst e;simp [di,h]
 ·rw [if_neg e];by_cases hi:i<W
  ·simp only [di,List.getElem?_map,List.getElem?_range hi,Option.map_some];by_cases h2:i<k
   ·rw [if_pos h2,if_pos (by omega)]
   ·rw [if_neg h2,if_neg (by omega)]
  ·simp [di,hi]
theorem Sk (f:Nat->Int) (W x:Nat) (h:x<W):(di f W W).getD x 0=f x:=by
 simp [di,List.getD_eq_getElem?_getD,h]
theorem KV (hs m:List Int): ∀k,(bh hs m k).length<=k
 |0=>Nat.le_refl _
 |k+1=>by
  have:=KV hs m k
  simp only [bh]
  split
  ·omega
  ·simp;omega
open Go Go.RowKit
section
variable {P:Program} {α β:Type}
def lX (P:Program) (s:Sem α):Prop:=(∃r,∀w,s.run P w= .ok r w)\/ ∀w r w1,s.run P w≠ .ok r w1
theorem lX.pure (x:α):lX P (Pure.pure x:Sem α):= .inl ⟨x,fun w=>by simp⟩
theorem lX.stuck (x:String):lX P (stuck x:Sem α):= .inr fun w r w1 h=>by simp [Go.stuck] at h
theorem lX.bind {s:Sem α} {f:α->Sem β} (h:lX P s) (hf: ∀x,lX P (f x)):lX P (s>>=f):=by
 rcases h with ⟨r,hr⟩|hn
 ·rcases hf r with ⟨q,hq⟩|hm
  ·exact .inl ⟨q,fun w=>by rw [Sem.run_bind,hr w,Result.andThen_ok,hq w]⟩
  ·exact .inr fun w q w1 h=>by rw [Sem.run_bind,hr w,Result.andThen_ok] at h;exact hm _ _ _ h
 ·refine .inr fun w q w1 h=>?_;rw [Sem.run_bind] at h;cases hs:s.run P w with
  |ok r w2=>exact hn _ _ _ hs
  |halt x w2=>rw [hs] at h;simp at h
theorem lX.size (t:Nat):lX P (sizeOf t):=by
 cases h:P.info? t with
 |some i=>exact .inl ⟨i.size,fun w=>by simp [sizeOf,typeInfo,h]⟩
 |none=>exact .inr fun w r w1 g=>by simp [sizeOf,typeInfo,h,Go.stuck] at g
theorem lX.bound (x:Value) (y:Nat) (c:BoundsCode):lX P (Instr.sliceBound x y c):=by
 unfold Instr.sliceBound;refine .bind ?_ fun p=>?_
 ·cases x
  case int k n=>exact .pure _
  case pointer a=>cases a<;>first|exact .stuck _|exact .inr fun w r w1 g=>by simp [asIntOf,unsupported] at g
  all_goals exact .stuck _
 ·obtain ⟨k,i⟩:=p;simp only
  split
  ·exact .pure _
  ·exact .inr fun w r w1 g=>by
    simp [boundsPanic,runtimePanic,goPanic] at g
    split at g<;>(try split at g)<;>cases g
theorem lX.bounds (b:Bool) (len cap:Nat) (lo hi mx:Option Value):lX P (Instr.sliceBounds b len cap lo hi mx):=by
 unfold Instr.sliceBounds;cases lo<;>cases hi<;>cases mx<;>dsimp only
 all_goals repeat (first|exact .pure _|exact .bound _ _ _|exact .stuck _|refine .bind ?_ fun _=>?_)
theorem lX.tv {s s':Sem α} (h: ∀w,s.run P w=s'.run P w) (hs:lX P s'):lX P s:=by
 rcases hs with ⟨r,hr⟩|hn
 ·exact .inl ⟨r,fun w=>by rw [h,hr]⟩
 ·exact .inr fun w r w1 g=>hn w r w1 (by rw [←h];exact g)
theorem lX.slice {t:Nat} {e:Nat} (h:tk P t= .slice e) (x:Value) (lo hi mx:Option Value):lX P (Instr.sliceAt t x lo hi mx):=by
 refine .tv (fun w=>DA (jb h) (by simp) x lo hi mx) ?_;cases x
 case slice a len cap=>
  refine .tv (s':=do
   let (l,h,m)←Instr.sliceBounds true len cap lo hi mx
   let size←sizeOf e
   Pure.pure (Value.slice (if m=l then a else a.map (·.add (l*size))) (h-l) (m-l))) (fun w=>?_) (.bind (.bounds _ _ _ _ _ _) fun _=> .bind (.size _) fun _=> .pure _)
  simp [Instr.slice,run_underlying (jb h)]
 all_goals exact .inr fun w r w1 g=>by simp [Instr.slice,run_underlying (jb h),Go.stuck] at g
def F5 (P:Program):Op->Bool
 | .move _| .assign _=>true
 | .slice t _ _ _ none=>match tk P t with
   | .slice _=>true
   |_=>false
 |_=>false
theorem Ym {o:Oper} (h:F5 P o.op=true) (ev:Operand->Value):lX P (execOp ev o):=by
 cases ho:o.op with
 |move x=>simp only [execOp,ho];exact .pure _
 |assign x=>simp only [execOp,ho];exact .pure _
 |slice t x lo hi mx=>
  rw [ho] at h;cases mx with
  |some _=>cases h
  |none=>
   simp only [F5] at h
   split at h
   ·rename_i e hk
    simp only [execOp,ho];exact .bind (.slice hk _ _ _ _) fun _=> .pure _
   ·cases h
 |_=>rw [ho] at h;cases h
theorem y44 {o:Oper} (h:F5 P o.op=true) {N:Nat} {fr:Fr} {H:Hp} {K:Fr->Hp->Prop} (hq:awO P N o fr H K): ∃p r,quF P H (evA fr) o.op=some (p,r)/\p/\dok o.dst N=true/\K (fput fr o.dst r) H:=by
 obtain ⟨_,hq⟩:=hq
 split at hq
 ·rename_i p r e;exact ⟨p,r,e,hq⟩
 ·rename_i e
  exfalso;cases ho:o.op with
  |move x=>rw [ho] at e;simp [quF,opF] at e
  |assign x=>rw [ho] at e;simp [quF,opF] at e
  |slice t x lo hi mx=>
   simp only [ho,alF,awX,spOp] at hq;exact absurd hq.1 (by decide)
  |_=>rw [ho] at h;cases h
end
def eagN (P:Program) (ops:Array Oper) (listed:Array Bool):List (Nat×Tr)->Bool
 |[(i,_)]=>Region.free .any ops listed i&&(Region.ready .any ops listed).contains i&&(match ops[i]? with|some o=>o.guard.isNone&&F5 P o.op|none=>false)
 |_=>false
mutual
def chkE (P:Program) (ops:Array Oper) (listed:Array Bool):Nat->Tr->Bool
 |0, .done=>(Region.ready .any ops listed).isEmpty
 |f+1, .node l=>(eagN P ops listed l||(!(Region.ready .any ops listed).isEmpty&&(Region.ready .any ops listed==l.map (·.1))))&&F4 P ops listed f l
 |_,_=>false
def F4 (P:Program) (ops:Array Oper) (listed:Array Bool) (f:Nat):List (Nat×Tr)->Bool
 |[]=>true
 |(i,t)::r=>chkE P ops (listed.setIfInBounds i true) f t&&F4 P ops listed f r
end
theorem Lk {P:Program} {ops:Array Oper} {listed:Array Bool} {f:Nat}: ∀(l:List (Nat×Tr)),F4 P ops listed f l=true-> ∀q∈l,chkE P ops (listed.setIfInBounds q.1 true) f q.2=true
 |[],_,q,hq=>by cases hq
 |(i,t)::r,h,q,hq=>by
  simp only [F4,Bool.and_eq_true] at h;rcases List.mem_cons.1 hq with e|e
  ·subst e;exact h.1
  ·exact Lk r h.2 q e
theorem y45 {P:Program} {N:Nat} {ops:Array Oper} {B:Nat} {w0:ja} {Mx:Nat->Prop} {K:Fr->Hp->Prop} (hsel:Region.noSelect ops=true) (Q:Exit->Act->World->Prop) (hP: ∀c a w,¬Q (.panic c) a w) (hQ: ∀a' w' ρ' fr' H',K fr' H'->aK B w0 Mx N w' ρ' fr' H' a'->Q .normal a' w'): ∀(f:Nat) (t:Tr) (listed:Array Bool) (w:World) (ρ:Nat->Addr) (fr:Fr) (H:Hp) (a:Act),chkE P ops listed f t=true->awT P N ops t fr H K->aK B w0 Mx N w ρ fr H a->wpAny P .any ops Q f listed a w:=by
 intro f
 induction f with
 |zero=>
  intro t listed w ρ fr H a hc h hs;cases t with
  |done=>
   simp only [chkE,List.isEmpty_iff] at hc;simp only [awT] at h;exact ⟨hc,hQ _ _ ρ _ _ h hs⟩
  |node l=>simp [chkE] at hc
 |succ f ih=>
  intro t listed w ρ fr H a hc h hs;cases t with
  |done=>simp [chkE] at hc
  |node l=>
   simp only [chkE,Bool.and_eq_true,Bool.or_eq_true] at hc;obtain ⟨iA,rU⟩:=hc;simp only [awT] at h;rcases iA with iA|iA
   ·unfold eagN at iA
    split at iA
    ·rename_i i t'
     simp only [Bool.and_eq_true] at iA;obtain ⟨⟨hf,hr⟩,ho⟩:=iA;cases hoi:ops[i]? with
     |none=>rw [hoi] at ho;cases ho
     |some o=>
      rw [hoi] at ho;simp only [Bool.and_eq_true,Option.isNone_iff_eq_none] at ho;have h1:=Hr _ h (i,t') (List.mem_singleton.2 rfl);have h2:=Lk _ rU (i,t') (List.mem_singleton.2 rfl);simp only [hoi,Option.toList_some,awL,ho.1] at h1;obtain ⟨p,r,hq,hp,hd,hk⟩:=y44 ho.2 h1;obtain ⟨v,aQ,hv⟩:=HI (P:=P) (o:=o) (a:=a) hs.objs hs.ev (fun s d x e=>by rw [e] at ho;cases ho.2) hq hp
      have hw:Region.wanted o (yielded ops a.tmps)=true:=by simp [Region.wanted,ho.1]
      have hy:Yields P ops o v a:= .inl ⟨hw,fun w'=>by
       rcases Ym ho.2 a.eval with ⟨r',iM⟩|hn
       ·have:=iM w;rw [aQ] at this;cases this;exact iM w'
       ·exact absurd aQ (hn _ _ _)⟩
      exact wpAny_take hoi hsel hf hr (fun c a w h=>absurd h (hP c _ _)) hy (ih t' _ w ρ _ _ _ h2 hk (hs.put hd hv))
    ·cases iA
   ·simp only [Bool.and_eq_true,Bool.not_eq_true',beq_iff_eq] at iA;refine ⟨fun fH=>by rw [fH] at iA;simp at iA,fun i hi=>?_⟩;rw [iA.2] at hi;obtain ⟨q,hq,rfl⟩:=List.mem_map.1 hi;have h1:=Hr l h q hq;have h2:=Lk l rU q hq;have hr:q.1∈Region.ready .any ops listed:=by rw [iA.2];exact List.mem_map_of_mem hq
    obtain ⟨_,o,g2,_⟩:=mem_ready.1 hr;rw [g2] at h1;exact TM g2 h1 hs _ _ fun a' w' ρ' fr' H' hk aZ=>ih q.2 _ w' ρ' fr' H' a' h2 hk aZ
def D7 (Q:Act->World->Prop):Exit->Act->World->Prop
 | .normal,a,w=>Q a w
 |_,_,_=>False
theorem an.aD {P:Program} {N:Nat} {ops:Array Oper} {id:Nat} {fr:Fr} {H:Hp} {Q:Exit->Fr->Hp->Prop} (t:Tr) (gY:(chkE P ops (Array.replicate ops.size false) ops.size t&&Region.noSelect ops)=true) (hm:P.follows .mixedOrders=true)
  (h:awT P N ops t fr H (Q .normal)):an P N id ops fr H Q:=by
 simp only [Bool.and_eq_true] at gY;refine ⟨fun B w0 Mx w ρ a hs=>wp_mono (wp_region_any (Q:=D7 fun a' w'=> ∃ρ' fr' H',Q .normal fr' H'/\aK B w0 Mx N w' ρ' fr' H' a') hm (y45 gY.2 _ (fun _ _ _ h=>h) (fun _ _ ρ' fr' H' hk aZ=>⟨ρ',fr',H',hk,aZ⟩) ops.size t _ _ ρ fr H a gY.1 h hs.draw)) fun e a' w' h=>?_⟩;cases e<;>first|exact h|exact h.elim
set_option maxRecDepth 100000
set_option maxHeartbeats 8000000
def o8:List (List Nat):=[[20,21,22,23,24,25,8],[19,23,24,25,8],[19,23,24,25,8],[19,23,24,25,8],[19,20,21,22,8],[19,20,21,22,8],[19,20,21,22,8],[8],[19,20,21,22,23,24,25,26],[]]
def oZ:List (List Nat):=[[],[0],[0],[0],[0,1,2,3],[0,1,2,3],[0,1,2,3],[],[0,1,2,3,4,5,6,7],[]]
def oY:List (List Nat):=[[68,69,70,71],[68,69,70,71],[66,67,69,70,71],[66,67,68,71,72],[66,67,68,71,72],[66,67,68,69,70,72],[69,70,71],[69,70,71],[],[]]
def Gf:Tr:= .node [(0, .node [(1, .node [(4, .node [(2, .node [(3, .node [(5, .node [(6, .node [(7, .node [(8, .node [(9, .done)])]),(8, .node [(7, .node [(9, .done)])])]),(8, .node [(6, .node [(7, .node [(9, .done)])])])]),(8, .node [(5, .node [(6, .node [(7, .node [(9, .done)])])])])]),(5, .node [(3, .node [(6, .node [(7, .node [(8, .node [(9, .done)])]),(8, .node [(7, .node [(9, .done)])])]),(8, .node [(6, .node [(7, .node [(9, .done)])])])]),(6, .node [(3, .node [(7, .node [(8, .node [(9, .done)])]),(8, .node [(7, .node [(9, .done)])])]),(8, .node [(3, .node [(7, .node [(9, .done)])])])]),(8, .node [(3, .node [(6, .node [(7, .node [(9, .done)])])]),(6, .node [(3, .node [(7, .node [(9, .done)])])])])]),(8, .node [(3, .node [(5, .node [(6, .node [(7, .node [(9, .done)])])])]),(5, .node [(3, .node [(6, .node [(7, .node [(9, .done)])])]),(6, .node [(3, .node [(7, .node [(9, .done)])])])])])]),(5, .node [(2, .node [(3, .node [(6, .node [(7, .node [(8, .node [(9, .done)])]),(8, .node [(7, .node [(9, .done)])])]),(8, .node [(6, .node [(7, .node [(9, .done)])])])]),(6, .node [(3, .node [(7, .node [(8, .node [(9, .done)])]),(8, .node [(7, .node [(9, .done)])])]),(8, .node [(3, .node [(7, .node [(9, .done)])])])]),(8, .node [(3, .node [(6, .node [(7, .node [(9, .done)])])]),(6, .node [(3, .node [(7, .node [(9, .done)])])])])]),(6, .node [(2, .node [(3, .node [(7, .node [(8, .node [(9, .done)])]),(8, .node [(7, .node [(9, .done)])])]),(8, .node [(3, .node [(7, .node [(9, .done)])])])]),(8, .node [(2, .node [(3, .node [(7, .node [(9, .done)])])])])]),(8, .node [(2, .node [(3, .node [(6, .node [(7, .node [(9, .done)])])]),(6, .node [(3, .node [(7, .node [(9, .done)])])])]),(6, .node [(2, .node [(3, .node [(7, .node [(9, .done)])])])])])]),(8, .node [(2, .node [(3, .node [(5, .node [(6, .node [(7, .node [(9, .done)])])])]),(5, .node [(3, .node [(6, .node [(7, .node [(9, .done)])])]),(6, .node [(3, .node [(7, .node [(9, .done)])])])])]),(5, .node [(2, .node [(3, .node [(6, .node [(7, .node [(9, .done)])])]),(6, .node [(3, .node [(7, .node [(9, .done)])])])]),(6, .node [(2, .node [(3, .node [(7, .node [(9, .done)])])])])])])])])])]
def Ge:Tr:= .node [(2, .node [(5, .node [(0, .node [(1, .node [(3, .node [(4, .node [(6, .node [(7, .node [(8, .node [(9, .done)])])])]),(6, .node [(4, .node [(7, .node [(8, .node [(9, .done)])])]),(7, .node [(4, .node [(8, .node [(9, .done)])])])])]),(6, .node [(3, .node [(4, .node [(7, .node [(8, .node [(9, .done)])])]),(7, .node [(4, .node [(8, .node [(9, .done)])])])]),(7, .node [(3, .node [(4, .node [(8, .node [(9, .done)])])])])])]),(3, .node [(1, .node [(4, .node [(6, .node [(7, .node [(8, .node [(9, .done)])])])]),(6, .node [(4, .node [(7, .node [(8, .node [(9, .done)])])]),(7, .node [(4, .node [(8, .node [(9, .done)])])])])]),(4, .node [(1, .node [(6, .node [(7, .node [(8, .node [(9, .done)])])])])])])]),(3, .node [(0, .node [(1, .node [(4, .node [(6, .node [(7, .node [(8, .node [(9, .done)])])])]),(6, .node [(4, .node [(7, .node [(8, .node [(9, .done)])])]),(7, .node [(4, .node [(8, .node [(9, .done)])])])])]),(4, .node [(1, .node [(6, .node [(7, .node [(8, .node [(9, .done)])])])])])]),(4, .node [(0, .node [(1, .node [(6, .node [(7, .node [(8, .node [(9, .done)])])])])])])])])])]
theorem an.cut {P:Program} {N:Nat} {ops:Array Oper} {id:Nat} {fr:Fr} {H:Hp} {y:Code} {Q:Exit->Fr->Hp->Prop} (fr1:Fr) (H1:Hp) (h1:an P N id ops fr H fun e fr' H'=>e= .normal/\Wk fr' H' fr1 H1) (h2:jt P N y fr1 H1 Q):an P N id ops fr H (yla Q fun fr' H'=>jt P N y fr' H' Q):=
 ⟨fun B w0 Mx w ρ a hs=>wp_mono (h1.out B w0 Mx w ρ a hs) (by
  rintro e a' w' ⟨ρ',fr',H',⟨rfl,hw⟩,aZ⟩;obtain ⟨ρ2,iW⟩:=hw _ _ _ _ _ _ _ aZ;exact ⟨ρ2,fr1,H1,h2,iW⟩)⟩
theorem MV (s m:List Int) (L:Int) (ends:List Int) (c:Nat) (hs:s.length<=1000) (hm:kh m s.length) (hc:c<s.length) (hel:ends.length<=90) (XC: ∀i,i<ends.length->0<=ends.getD i 0/\ends.getD i 0<4*s.length):
  Fn Tryz.prog 143 [dgA s m L,roI ends,I c] (.agg [I ends.length,roI (di (lg (bY ends c) m) (ends.length+4) (ends.length+4)),roI (di (nR (bY ends c) m) (ends.length+4) (ends.length+4)),roI (bh (bY ends c) m (ends.length+4))]):=by
 have iw:=hm.1;have IA:=sq ends c;have vn: ∀x,x<ends.length+4->0<=(bY ends c).getD x 0/\(bY ends c).getD x 0<m.length:=fun x hx=>by
  unfold bY;by_cases h1:x<ends.length
  ·have:=XC x h1
   simp only [List.getD_eq_getElem?_getD,List.getElem?_append_left h1] at this⊢;omega
  ·simp only [List.getD_eq_getElem?_getD,List.getElem?_append_right (Nat.le_of_not_lt h1)]
   have:x-ends.length=0\/x-ends.length=1\/x-ends.length=2\/x-ends.length=3:=by omega
   rcases this with e|e|e|e<;>rw [e]<;>simp<;>omega
 have Xa:List.replicate 0 0++ends++[4*(c:Int),4*c+1,4*c+2,4*c+3]=bY ends c:=by simp [bY]
 have W0:ends++[4*(c:Int),4*c+1,4*c+2,4*c+3]=bY ends c:=rfl;generalize bY ends c=hv at*;obtain ⟨W,hW⟩: ∃W,ends.length+4=W:=⟨_,rfl⟩;have e0:((ends.length:Int)+4).toNat=W:=by omega
 rw [hW] at IA vn⊢;have Qo:W<=94:=by omega
 refine Fn.aq [.cell 6 154] Tryz.func143 rfl rfl (by decide) (by simp [Tryz.ntmps143]) ?_;rw [Tryz.ntmps143]
 repeat' (first|omega|(first|apply ag|(refine an.intro (id:=2) o8 oZ (by decide+kernel) mixed ?_)|(refine an.intro (id:=13) oY [[],[],[0,1],[0,1,2],[0,1,2],[0,1,2,3,4],[3,4,5],[3,4,5],[],[]] (by decide+kernel) mixed ?_)|skip);simp only [go_sem,sevalprocAttr,Int.toNat_natCast,e0,hW,Xa,W0,↓reduceIte,reduceCtorEq,o8,oZ,oY]|apply ah<;>(intro h_;(try simp only [h_]);revert h_)|apply ai|apply aj|apply ae|apply And.intro|with_reducible intro h_|trivial|simp only [go_sem,ak];omega)
 refine fb.makeMap (n:=(ends.length:Int)+4) (kt:=3) (et:=3) rfl rfl (by simp only [go_sem,sevalprocAttr]) rfl ?_
 repeat' (first|omega|(first|apply ag|(refine an.intro (id:=2) o8 oZ (by decide+kernel) mixed ?_)|(refine an.intro (id:=13) oY [[],[],[0,1],[0,1,2],[0,1,2],[0,1,2,3,4],[3,4,5],[3,4,5],[],[]] (by decide+kernel) mixed ?_)|skip);simp only [go_sem,sevalprocAttr,Int.toNat_natCast,e0,hW,Xa,W0,↓reduceIte,reduceCtorEq,o8,oZ,oY]|apply ah<;>(intro h_;(try simp only [h_]);revert h_)|apply ai|apply aj|apply ae|apply And.intro|with_reducible intro h_|trivial|simp only [go_sem,ak];omega)
 refine bV.intro (fun n fr H=> ∃k:Nat,k<=W/\n=W-k/\fr=[(50,I k),(49,I W),(48, .sl 1 11 0 W),(10, .mp 13),(9, .sl 1 11 0 W),(8, .ptr 10 0),(6, .ptr 1 0),(3, .ptr 0 0)]/\H=[(13, .fmap 118 (.ints (ndF hv k))),(11, .cells 3 (.ints hv)),(10, .cells 154 (.lst [I ends.length, .sl 1 5 0 W, .sl 1 8 0 W, .nils])),(8, .cells 3 (.ints (List.replicate W 0))),(5, .cells 3 (.ints (List.replicate W 0))),(1, .cells 154 (.lst [I 0, .nils, .nils, .nils])),(0, .cells 24 (.lst [roI s,roI m,I L]))]) ?_ ?_
 ·refine ⟨_,_,_,?_,0,by omega,rfl,rfl,rfl⟩;refine Wk.sub ?_ ?_<;>(simp only [go_sem,sevalprocAttr,ndF])
 rintro n fr H ⟨k,hk,rfl,rfl,rfl⟩;by_cases Cu:k<W
 ·have bk:decide ((k:Int)<W)=true:=by simp;omega
  have gL:updI (ndF hv k) (hv.getD k 0) k=ndF hv (k+1):=rfl
  repeat' (first|omega|(try apply ag);simp only [go_sem,sevalprocAttr,bk,gL,IA]|apply ah<;>(intro h_;(try simp only [h_]);revert h_)|apply ai|apply aj|apply ae|apply And.intro|with_reducible intro h_|trivial|simp only [go_sem,ak];omega)
  refine ⟨_,_,_,?_,?_,⟨k+1,by omega,rfl,rfl,rfl⟩⟩
  ·omega
  ·refine Wk.sub ?_ ?_<;>(simp only [go_sem,sevalprocAttr,gL])
 obtain rfl:k=W:=by omega
 have bk:decide ((k:Int)<k)=false:=by simp
 have P2: ∀x,fD hv m x=ndF hv k (m.getD (hv.getD x 0).toNat 0):=fun x=>by unfold fD;rw [IA]
 repeat' (first|omega|(try apply ag);simp only [go_sem,sevalprocAttr,bk]|apply ah<;>(intro h_;(try simp only [h_]);revert h_)|apply ai|apply aj|apply ae|apply And.intro|with_reducible intro h_|trivial|simp only [go_sem,ak];omega)
 refine bV.intro (fun n fr H=> ∃j:Nat,j<=k/\n=k-j/\fr=[(61,I j),(60,I k),(59, .sl 1 11 0 k),(10, .mp 13),(8, .ptr 10 0),(6, .ptr 1 0),(3, .ptr 0 0)]/\((bh hv m j=[]/\H=[(13, .fmap 118 (.ints (ndF hv k))),(11, .cells 3 (.ints hv)),(10, .cells 154 (.lst [I ends.length, .sl 1 5 0 k, .sl 1 8 0 k, .nils])),(8, .cells 3 (.ints (di (nR hv m) k j))),(5, .cells 3 (.ints (di (lg hv m) k j))),(1, .cells 154 (.lst [I 0, .nils, .nils, .nils])),(0, .cells 24 (.lst [roI s,roI m,I L]))])\/
  H=[(15, .cells 3 (.ints (bh hv m j))),(13, .fmap 118 (.ints (ndF hv k))),(11, .cells 3 (.ints hv)),(10, .cells 154 (.lst [I ends.length, .sl 1 5 0 k, .sl 1 8 0 k, .sl 1 15 0 (bh hv m j).length])),(8, .cells 3 (.ints (di (nR hv m) k j))),(5, .cells 3 (.ints (di (lg hv m) k j))),(1, .cells 154 (.lst [I 0, .nils, .nils, .nils])),(0, .cells 24 (.lst [roI s,roI m,I L]))])) ?_ ?_
 ·refine ⟨_,_,_,?_,0,by omega,rfl,rfl, .inl ⟨rfl,rfl⟩⟩;rw [VH,VH];refine Wk.sub ?_ ?_<;>(simp only [go_sem,sevalprocAttr,ndF])
 rintro n fr H ⟨j,hj,rfl,rfl,qO⟩;have l1:=Dl (nR hv m) k j;have l2:=Dl (lg hv m) k j;have l3:=KV hv m j;by_cases qa:j<k
 ·have bj:decide ((j:Int)<k)=true:=by simp;omega
  have r1:=vn j qa;have s1:=SH (nR hv m) k j qa;have s2:=SH (lg hv m) k j qa;have pj:=P2 j;have oK:=hm.2 (hv.getD j 0).toNat (by omega);have d1:(di (lg hv m) k j).length=k:=l2;rcases qO with ⟨fH,rfl⟩|rfl
  ·repeat' (first|omega|(try apply ag);simp only [go_sem,sevalprocAttr,bj]|apply ah<;>(intro h_;(try simp only [h_]);revert h_)|apply ai|apply aj|apply ae|apply And.intro|with_reducible intro h_|trivial|simp only [go_sem,ak];omega)
   refine an.cut [(14,I (hv.getD j 0)),(13,I j),(61,I j),(60,I k),(59, .sl 1 11 0 k),(10, .mp 13),(8, .ptr 10 0),(6, .ptr 1 0),(3, .ptr 0 0)] [(13, .fmap 118 (.ints (ndF hv k))),(11, .cells 3 (.ints hv)),(10, .cells 154 (.lst [I ends.length, .sl 1 5 0 k, .sl 1 8 0 k, .nils])),(8, .cells 3 (.ints ((di (nR hv m) k j).set j (-1)))),(5, .cells 3 (.ints ((di (lg hv m) k j).set j (-1)))),(1, .cells 154 (.lst [I 0, .nils, .nils, .nils])),(0, .cells 24 (.lst [roI s,roI m,I L]))] ?_ ?_
   ·repeat' (first|omega|(first|apply ag|(refine an.aD (id:=2) (Gf) (by decide+kernel) mixed ?_)|(refine an.intro (id:=2) o8 oZ (by decide+kernel) mixed ?_)|(refine an.aD (id:=13) (Ge) (by decide+kernel) mixed ?_)|(refine an.intro (id:=13) oY [[],[],[0,1],[0,1,2],[0,1,2],[0,1,2,3,4],[3,4,5],[3,4,5],[],[]] (by decide+kernel) mixed ?_)|skip);simp only [go_sem,sevalprocAttr,List.length_set,Int.toNat_natCast,↓reduceIte,reduceCtorEq,o8,oZ,oY,Gf,Ge]|apply ah<;>(intro h_;(try simp only [h_]);revert h_)|apply ai|apply aj|apply ae|apply And.intro|with_reducible intro h_|trivial|simp only [go_sem,ak];omega)
    all_goals (refine Wk.sub ?_ ?_<;>(simp only [go_sem,sevalprocAttr,l1]))
   cases hq:ndF hv k (m.getD (hv.getD j 0).toNat 0) with
   |some y=>
    rw [hq] at pj;have i1:nR hv m j= -1:=by unfold nR;rw [pj];rfl
    have i2:lg hv m j=y:=by unfold lg;rw [pj];rfl
    have i3:bh hv m (j+1)=bh hv m j:=by simp only [bh];rw [pj];rfl
    rw [i1] at s1;rw [i2] at s2
    repeat' (first|omega|(first|apply ag|(refine an.intro (id:=2) o8 oZ (by decide+kernel) mixed ?_)|(refine an.intro (id:=13) oY [[],[],[0,1],[0,1,2],[0,1,2],[0,1,2,3,4],[3,4,5],[3,4,5],[],[]] (by decide+kernel) mixed ?_)|skip);simp only [go_sem,sevalprocAttr,bj,hq,Option.isSome_some,Option.getD_some,List.set_set,List.length_set,Int.toNat_natCast,s1,s2,↓reduceIte,reduceCtorEq,o8,oZ,oY]|apply ah<;>(intro h_;(try simp only [h_]);revert h_)|apply ai|apply aj|apply ae|apply And.intro|with_reducible intro h_|trivial|simp only [go_sem,ak];omega)
    refine ⟨_,_,_,?_,?_,j+1,by omega,rfl,rfl, .inl ⟨by rw [i3];exact fH,rfl⟩⟩
    ·omega
    ·refine Wk.sub ?_ ?_<;>(simp only [go_sem,sevalprocAttr,hW])
   |none=>
    rw [hq] at pj;have i1:nR hv m j=(bh hv m j).length:=by unfold nR;rw [pj];rfl
    have i2:lg hv m j= -1:=by unfold lg;rw [pj];rfl
    have i3:bh hv m (j+1)=bh hv m j++[hv.getD j 0]:=by simp only [bh];rw [pj];rfl
    rw [fH,List.nil_append] at i3;rw [i1,fH] at s1;rw [i2] at s2;have s1':(di (nR hv m) k j).set j 0=di (nR hv m) k (j+1):=s1
    repeat' (first|omega|(first|apply ag|(refine an.intro (id:=2) o8 oZ (by decide+kernel) mixed ?_)|(refine an.intro (id:=13) oY [[],[],[0,1],[0,1,2],[0,1,2],[0,1,2,3,4],[3,4,5],[3,4,5],[],[]] (by decide+kernel) mixed ?_)|skip);simp only [go_sem,sevalprocAttr,bj,hq,Option.isSome_none,Option.getD_none,List.set_set,List.length_set,Int.toNat_natCast,s1',s2,↓reduceIte,reduceCtorEq,o8,oZ,oY]|apply ah<;>(intro h_;(try simp only [h_]);revert h_)|apply ai|apply aj|apply ae|apply And.intro|with_reducible intro h_|trivial|simp only [go_sem,ak];omega)
    refine ⟨_,_,_,?_,?_,j+1,by omega,rfl,rfl, .inr rfl⟩
    ·omega
    ·rw [i3];refine Wk.sub ?_ ?_<;>(simp only [go_sem,sevalprocAttr,hW])
  ·repeat' (first|omega|(try apply ag);simp only [go_sem,sevalprocAttr,bj]|apply ah<;>(intro h_;(try simp only [h_]);revert h_)|apply ai|apply aj|apply ae|apply And.intro|with_reducible intro h_|trivial|simp only [go_sem,ak];omega)
   refine an.cut [(14,I (hv.getD j 0)),(13,I j),(61,I j),(60,I k),(59, .sl 1 11 0 k),(10, .mp 13),(8, .ptr 10 0),(6, .ptr 1 0),(3, .ptr 0 0)] [(15, .cells 3 (.ints (bh hv m j))),(13, .fmap 118 (.ints (ndF hv k))),(11, .cells 3 (.ints hv)),(10, .cells 154 (.lst [I ends.length, .sl 1 5 0 k, .sl 1 8 0 k, .sl 1 15 0 (bh hv m j).length])),(8, .cells 3 (.ints ((di (nR hv m) k j).set j (-1)))),(5, .cells 3 (.ints ((di (lg hv m) k j).set j (-1)))),(1, .cells 154 (.lst [I 0, .nils, .nils, .nils])),(0, .cells 24 (.lst [roI s,roI m,I L]))] ?_ ?_
   ·repeat' (first|omega|(first|apply ag|(refine an.aD (id:=2) (Gf) (by decide+kernel) mixed ?_)|(refine an.intro (id:=2) o8 oZ (by decide+kernel) mixed ?_)|(refine an.aD (id:=13) (Ge) (by decide+kernel) mixed ?_)|(refine an.intro (id:=13) oY [[],[],[0,1],[0,1,2],[0,1,2],[0,1,2,3,4],[3,4,5],[3,4,5],[],[]] (by decide+kernel) mixed ?_)|skip);simp only [go_sem,sevalprocAttr,List.length_set,Int.toNat_natCast,↓reduceIte,reduceCtorEq,o8,oZ,oY,Gf,Ge]|apply ah<;>(intro h_;(try simp only [h_]);revert h_)|apply ai|apply aj|apply ae|apply And.intro|with_reducible intro h_|trivial|simp only [go_sem,ak];omega)
    all_goals (refine Wk.sub ?_ ?_<;>(simp only [go_sem,sevalprocAttr,l1]))
   cases hq:ndF hv k (m.getD (hv.getD j 0).toNat 0) with
   |some y=>
    rw [hq] at pj;have i1:nR hv m j= -1:=by unfold nR;rw [pj];rfl
    have i2:lg hv m j=y:=by unfold lg;rw [pj];rfl
    have i3:bh hv m (j+1)=bh hv m j:=by simp only [bh];rw [pj];rfl
    rw [i1] at s1;rw [i2] at s2
    repeat' (first|omega|(first|apply ag|(refine an.intro (id:=2) o8 oZ (by decide+kernel) mixed ?_)|(refine an.intro (id:=13) oY [[],[],[0,1],[0,1,2],[0,1,2],[0,1,2,3,4],[3,4,5],[3,4,5],[],[]] (by decide+kernel) mixed ?_)|skip);simp only [go_sem,sevalprocAttr,bj,hq,Option.isSome_some,Option.getD_some,List.set_set,List.length_set,Int.toNat_natCast,s1,s2,↓reduceIte,reduceCtorEq,o8,oZ,oY]|apply ah<;>(intro h_;(try simp only [h_]);revert h_)|apply ai|apply aj|apply ae|apply And.intro|with_reducible intro h_|trivial|simp only [go_sem,ak];omega)
    refine ⟨_,_,_,?_,?_,j+1,by omega,rfl,rfl, .inr rfl⟩
    ·omega
    ·rw [i3];refine Wk.sub ?_ ?_<;>(simp only [go_sem,sevalprocAttr,hW])
   |none=>
    rw [hq] at pj;have i1:nR hv m j=(bh hv m j).length:=by unfold nR;rw [pj];rfl
    have i2:lg hv m j= -1:=by unfold lg;rw [pj];rfl
    have i3:bh hv m (j+1)=bh hv m j++[hv.getD j 0]:=by simp only [bh];rw [pj];rfl
    rw [i1] at s1;rw [i2] at s2
    repeat' (first|omega|(first|apply ag|(refine an.intro (id:=2) o8 oZ (by decide+kernel) mixed ?_)|(refine an.intro (id:=13) oY [[],[],[0,1],[0,1,2],[0,1,2],[0,1,2,3,4],[3,4,5],[3,4,5],[],[]] (by decide+kernel) mixed ?_)|skip);simp only [go_sem,sevalprocAttr,bj,hq,Option.isSome_none,Option.getD_none,List.set_set,List.length_set,Int.toNat_natCast,s1,s2,↓reduceIte,reduceCtorEq,o8,oZ,oY]|apply ah<;>(intro h_;(try simp only [h_]);revert h_)|apply ai|apply aj|apply ae|apply And.intro|with_reducible intro h_|trivial|simp only [go_sem,ak];omega)
    refine ⟨_,_,_,?_,?_,j+1,by omega,rfl,rfl, .inr rfl⟩
    ·omega
    ·rw [i3,List.length_append];refine Wk.sub ?_ ?_<;>(simp only [go_sem,sevalprocAttr,hW])
 ·obtain rfl:j=k:=by omega
  have bj:decide ((j:Int)<j)=false:=by simp
  rcases qO with ⟨fH,rfl⟩|rfl
  ·rw [fH]
   repeat' (first|omega|(try apply ag);simp only [go_sem,sevalprocAttr,bj]|apply ah<;>(intro h_;(try simp only [h_]);revert h_)|apply ai|apply aj|apply ae|apply And.intro|with_reducible intro h_|trivial|simp only [go_sem,ak];omega)
   rw [List.take_of_length_le (Nat.le_of_eq l2),List.take_of_length_le (Nat.le_of_eq l1),l1,l2];exact aR.js (.cons (aR.refl _) (.cons (aR.refl _) (.cons (aR.refl _) (.cons (aR.nils (by decide) rfl) .nil))))
  ·repeat' (first|omega|(try apply ag);simp only [go_sem,sevalprocAttr,bj]|apply ah<;>(intro h_;(try simp only [h_]);revert h_)|apply ai|apply aj|apply ae|apply And.intro|with_reducible intro h_|trivial|simp only [go_sem,ak];omega)
   rw [List.take_of_length_le (Nat.le_of_eq l2),List.take_of_length_le (Nat.le_of_eq l1),List.take_length,l1,l2];exact aR.refl _
end Go.Proofs.YtphjphpmfflfpaaGreatDoor
