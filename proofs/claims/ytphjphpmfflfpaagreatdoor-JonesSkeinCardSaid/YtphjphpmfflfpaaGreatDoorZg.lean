/- Layer 17: follow: the new pairing, and the circles that are closed. -/
import Derived.Test.YtphjphpmfflfpaaGreatDoorZd
import Derived.Test.YtphjphpmfflfpaaGreatDoorZf
import Derived.Test.YtphjphpmfflfpaaGreatDoorZc
import Derived.Test.YtphjphpmfflfpaaGreatDoorGc
set_option linter.unusedSimpArgs false
set_option linter.unusedVariables false
namespace Go.Proofs.YtphjphpmfflfpaaGreatDoor
open Go Go.RowKit
set_option maxRecDepth 100000
set_option maxHeartbeats 8000000
abbrev fF (aS:Nat) (T:List Nat) (J:List Int) (x:Nat):Nat:=(j6 aS T J x).toNat
abbrev aE (glue:List Int) (x:Nat):Int:=glue.getD x 0
theorem UB (n:Nat):(List.replicate n [AV.int .u8 0]).flatten=(List.replicate n (0:Int)).map (AV.int .u8):=by
 induction n with
 |zero=>rfl
 |succ n ih=>rw [List.replicate_succ,List.flatten_cons,ih,List.replicate_succ];rfl
theorem Q1 {ts:List Int} {x:AV} (h:x∈ts.map (AV.int .u8)): ∃n,x= .int .u8 n:=by
 obtain ⟨n,_,rfl⟩:=List.mem_map.1 h;exact ⟨n,rfl⟩
theorem Qn (ts:List Int):(ts.map (AV.int .u8)).all p1=true:=List.all_eq_true.2 fun x hx=>by obtain ⟨n,rfl⟩:=Q1 hx;rfl
theorem qU (H:Hp) (ts:List Int):(ts.map (AV.int .u8)).all (s3 H)=true:=List.all_eq_true.2 fun x hx=>by obtain ⟨n,rfl⟩:=Q1 hx;rfl
theorem Jo (H:Hp) (n:Nat) (ts:List Int):(ts.map (AV.int .u8)).map (aN H (n+1))=ts.map (AV.int .u8):=gd (Qn ts) H n
theorem UA (H:Hp) (n:Nat) (ts:List Int):(∀x∈ts.map (AV.int .u8),aT H (n+1) x)=True:=gb (Qn ts) H n
theorem Q0 (ts:List Int) (i:Nat) (v:Int):(ts.map (AV.int .u8)).set i (.int .u8 v)=(ts.set i v).map (AV.int .u8):=List.map_set.symm
structure Qm (aS:Nat) (glue index:List Int) (E:Nat) (T:List Nat) (J:List Int):Prop where
 gl:glue.length=aS+4
 il:index.length=aS+4
 hT:T.length=aS
 hb: ∀i∈T,i<100
 hJ:J.length=4
 LQ: ∀i,0<=J.getD i 0/\J.getD i 0<=3
 hc:aS<=90
 hE:E<=99
 gr: ∀x,x<aS+4-> -1<=glue.getD x 0/\glue.getD x 0<aS+4
 ix: ∀x,x<aS+4->(0<=glue.getD x 0->index.getD x 0= -1)/\(glue.getD x 0<0->0<=index.getD x 0/\index.getD x 0<E)
 ar: ∀x,x<aS+4->0<=j6 aS T J x/\j6 aS T J x<aS+4
 hP: ∀k,k<aS+4->glue.getD k 0<0-> ∃ys e,kj (fF aS T J) (aE glue) k ys e/\ys.length<=aS+4
 hC: ∀k,k<aS+4->0<=glue.getD k 0->(br (aS+4) (fF aS T J) (aE glue) (endN (aS+4) (fF aS T J) (aE glue) (aS+4)) k).1.getD k false=false-> ∃zs,tA (fF aS T J) (aE glue) (br (aS+4) (fF aS T J) (aE glue) (endN (aS+4) (fF aS T J) (aE glue) (aS+4)) k).1 k zs/\zs.length<=aS+4
theorem kj.Mb {arc:Nat->Nat} {glue:Nat->Int} {W:Nat} (eY: ∀x,x<W->arc x<W) (Lj: ∀x,x<W->0<=glue x->(glue x).toNat<W) {u e:Nat} {ys:List Nat} (h:kj arc glue u ys e):u<W->e<W/\glue e<0:=by
 induction h with
 |nil h=>exact fun hu=>⟨eY _ hu,h⟩
 |cons h k ih=>exact fun hu=>ih (Lj _ (eY _ hu) h)
theorem WW (aS:Nat) (glue index ends:List Int) (T:List Nat) (J:List Int) (h:Qm aS glue index ends.length T J):
  Fn Tryz.prog 176 [.agg [I aS,roI glue,roI index,roI ends], .str (pS T), .agg (J.map (AV.int .i64))]
   (.tup [.str (nU (txN (fF aS T J) (aE glue) (fun x=>index.getD x 0) (aS+4) ends.length (aS+4))),I (br (aS+4) (fF aS T J) (aE glue) (endN (aS+4) (fF aS T J) (aE glue) (aS+4)) (aS+4)).2]):=by
 obtain ⟨j0,j1,j2,j3,rfl⟩: ∃j0 j1 j2 j3,J=[j0,j1,j2,j3]:=by
  have:=h.hJ
  match J,this with
  |[a,b,c,d],_=>exact ⟨a,b,c,d,rfl⟩
 have hA:=fun x (hx:x<aS+4)=>Jt aS x glue index ends T [j0,j1,j2,j3] h.hT h.hb h.hJ h.LQ hx (by have:=h.hc;omega);have LY: ∀x,x<aS+4->j6 aS T [j0,j1,j2,j3] x=(fF aS T [j0,j1,j2,j3] x:Int)/\fF aS T [j0,j1,j2,j3] x<aS+4:=fun x hx=>by have:=h.ar x hx;unfold fF;exact ⟨by omega,by omega⟩
 obtain ⟨Fw,fS,_,_,_,_,Yz,YX,Lj,Fv,_,hP,hC⟩:=h;have L4: ∀x,x<aS+4->Fn Tryz.prog 193 [I x, .rp (.lst [I aS,roI glue,roI index,roI ends]) 0, .rp (.lst [.str (pS T)]) 0, .rp (.lst [I j0,I j1,I j2,I j3]) 0] (I (fF aS T [j0,j1,j2,j3] x:Nat)):=fun x hx=>by
  have:=hA x hx
  rw [(LY x hx).1] at this;exact this
 have LZ:=fun x hx=>(LY x hx).2;clear hA LY;generalize fF aS T [j0,j1,j2,j3]=arc at*;have LK:aS+4<=94:=by omega
 generalize hWd:aS+4=W at*;obtain ⟨S,hS⟩: ∃S,S=Cs.lst [I aS,roI glue,roI index,roI ends]:=⟨_,rfl⟩;have Ln: ∀x,x<W->0<=aE glue x->(aE glue x).toNat<W/\((aE glue x).toNat:Int)=aE glue x:=fun x hx h0=>by
  have:=Lj x hx
  unfold aE at*;exact ⟨by omega,by omega⟩
 refine Fn.au [.tmp 6, .tmp 7] Tryz.func176 rfl rfl (by decide) (by simp [Tryz.ntmps176]) ?_;rw [Tryz.ntmps176]
 repeat' (first|omega|(try apply aj);simp only [go_sem,sevalprocAttr,UB,Int.toNat_natCast]|apply ag<;>(intro h_;(try simp only [h_]);revert h_)|apply ah|apply ai|apply ae|apply And.intro|with_reducible intro h_|trivial|simp only [go_sem,ak];omega)
 refine bN.intro (fun n fr H=> ∃k:Nat,k<=W/\n=W-k/\fr=[(31,I k),(30,I index.length),(29,roI index),(10, .sl 1 4 0 ends.length),(9, .sl 1 3 0 glue.length),(8, .fn 193 [.rp (.lst [I aS,roI glue,roI index,roI ends]) 0, .rp (.lst [.str (pS T)]) 0, .rp (.lst [I j0,I j1,I j2,I j3]) 0]),(3, .rp (.lst [I aS,roI glue,roI index,roI ends]) 0)]/\H=[(4, .cells 5 (.lst ((txN arc (aE glue) (fun x=>index.getD x 0) W ends.length k).map (AV.int .u8)))),(3, .cells 4 (.bools (endN W arc (aE glue) k)))]) ?_ ?_
 ·refine ⟨_,_,_,?_,0,by omega,rfl,rfl,rfl⟩;refine Wk.trans (Wk.kB [0,1,2] ?_ ?_ rfl rfl) (Wk.sub ?_ ?_)
  all_goals (simp only [go_sem,sevalprocAttr,txN,endN,Fw,Int.toNat_natCast,qU,Jo,UA])
 rintro n fr H ⟨k,hk,rfl,rfl,rfl⟩;have tl:=wC arc (aE glue) (fun x=>index.getD x 0) W ends.length k;have sl:=Es W arc (aE glue) k;by_cases zr:k<W
 ·have bk:decide ((k:Int)<index.length)=true:=by simp;omega
  have Cp:=Fv k zr;by_cases hg:0<=glue.getD k 0
  ·have h1:=Cp.1 hg;have b1:decide (index.getD k 0<0)=true:=by rw [decide_eq_true_eq];omega
   have e1:txN arc (aE glue) (fun x=>index.getD x 0) W ends.length (k+1)=txN arc (aE glue) (fun x=>index.getD x 0) W ends.length k:=by simp only [txN];rw [if_pos (by omega)]
   have e2:endN W arc (aE glue) (k+1)=endN W arc (aE glue) k:=by simp only [endN];rw [if_pos (show 0<=aE glue k from hg)]
   repeat' (first|omega|(try apply aj);simp only [go_sem,sevalprocAttr,bk,b1]|apply ag<;>(intro h_;(try simp only [h_]);revert h_)|apply ah|apply ai|apply ae|apply And.intro|with_reducible intro h_|trivial|simp only [go_sem,ak];omega)
   refine ⟨_,_,_,?_,?_,⟨k+1,by omega,rfl,rfl,rfl⟩⟩
   ·omega
   ·rw [e1,e2];refine Wk.sub ?_ ?_<;>(simp only [go_sem,sevalprocAttr,qU])
  ·have h1:=Cp.2 (by omega);have b1:decide (index.getD k 0<0)=false:=by rw [decide_eq_false_iff_not];omega
   obtain ⟨ys,e,hp,jK⟩:=hP k zr (by omega);have aH:=yF hp (W+1) (endN W arc (aE glue) k) (by omega);have oT:=yF hp (W+1) [] (by omega);obtain ⟨heW,heg⟩:=hp.Mb LZ (fun x hx h0=>(Ln x hx h0).1) zr;have e1:txN arc (aE glue) (fun x=>index.getD x 0) W ends.length (k+1)=(txN arc (aE glue) (fun x=>index.getD x 0) W ends.length k).set (index.getD k 0).toNat (97+index.getD e 0):=by
    simp only [txN];rw [if_neg (by omega),oT]
   have e2:endN W arc (aE glue) (k+1)=ys.foldl (b5 (aE glue)) (endN W arc (aE glue) k):=by
    simp only [endN];rw [if_neg (show¬0<=aE glue k from hg),aH]
   generalize txN arc (aE glue) (fun x=>index.getD x 0) W ends.length k=ts at*;generalize endN W arc (aE glue) k=oL at*;have Y1:=L4 k zr
   repeat' (first|omega|(try apply aj);simp only [go_sem,sevalprocAttr,bk,b1]|apply ag<;>(intro h_;(try simp only [h_]);revert h_)|apply ah|apply ai|apply ae|apply And.intro|with_reducible intro h_|trivial|simp only [go_sem,ak];omega)
   refine ⟨az.fn rfl Y1 ?_⟩
   repeat' (first|omega|(try apply aj);simp only [go_sem,sevalprocAttr,bk,b1]|apply ag<;>(intro h_;(try simp only [h_]);revert h_)|apply ah|apply ai|apply ae|apply And.intro|with_reducible intro h_|trivial|simp only [go_sem,ak];omega)
   refine bN.intro (fun n fr H=> ∃(u:Nat) (zs:List Nat) (sn:List Bool),n=zs.length/\u<W/\kj arc (aE glue) u zs e/\sn.length=W/\zs.foldl (b5 (aE glue)) sn=ys.foldl (b5 (aE glue)) oL/\fr=[(13,I (arc u:Nat)),(12,I (index.getD k 0)),(31,I k),(30,I index.length),(29,roI index),(10, .sl 1 4 0 ends.length),(9, .sl 1 3 0 glue.length),(8, .fn 193 [.rp (.lst [I aS,roI glue,roI index,roI ends]) 0, .rp (.lst [.str (pS T)]) 0, .rp (.lst [I j0,I j1,I j2,I j3]) 0]),(3, .rp (.lst [I aS,roI glue,roI index,roI ends]) 0)]/\H=[(4, .cells 5 (.lst (ts.map (AV.int .u8)))),(3, .cells 4 (.bools sn))]) ?_ ?_
   ·refine ⟨_,_,_,?_,k,ys,oL,rfl,zr,hp,sl,rfl,rfl,rfl⟩;refine Wk.sub ?_ ?_<;>(simp only [go_sem,sevalprocAttr,qU])
   rintro n fr H ⟨u,zs,sn,rfl,hu,XT,dq,dG,rfl,rfl⟩;have Ss:=LZ u hu;cases XT with
   |nil hn=>
    have b2:decide (0<=glue.getD (arc u) 0)=false:=by have:aE glue (arc u)=glue.getD (arc u) 0:=rfl;rw [decide_eq_false_iff_not];omega
    have Sa:=(Fv (arc u) Ss).2 hn;have w1:IntKind.u8.wrap (97+index.getD (arc u) 0)=97+index.getD (arc u) 0:=IntWalk.u8_in _ (by omega);simp only [List.foldl_nil] at dG;rw [←dG] at e2
    repeat' (first|omega|(try apply aj);simp only [go_sem,sevalprocAttr,b2,w1,Q0,List.length_map,Int.toNat_natCast]|apply ag<;>(intro h_;(try simp only [h_]);revert h_)|apply ah|apply ai|apply ae|apply And.intro|with_reducible intro h_|trivial|simp only [go_sem,ak];omega)
    refine ⟨_,_,_,?_,?_,⟨k+1,by omega,rfl,rfl,rfl⟩⟩
    ·omega
    ·rw [e1,e2];refine Wk.sub ?_ ?_<;>(simp only [go_sem,sevalprocAttr,qU,Q0])
   | @cons _ _ ys' hc nh=>
     obtain ⟨zW,ze⟩:=Ln (arc u) Ss hc;have b2:decide (0<=glue.getD (arc u) 0)=true:=by have:aE glue (arc u)=glue.getD (arc u) 0:=rfl;rw [decide_eq_true_eq];omega
     have hz:glue.getD (arc u) 0=((aE glue (arc u)).toNat:Int):=ze.symm;have LX:=L4 _ zW;rw [List.foldl_cons] at dG;have dT:b5 (aE glue) sn (arc u)=(sn.set (arc u) true).set (aE glue (arc u)).toNat true:=rfl;generalize (aE glue (arc u)).toNat=z at*
     repeat' (first|omega|(try apply aj);simp only [go_sem,sevalprocAttr,b2,hz,List.length_set,Int.toNat_natCast]|apply ag<;>(intro h_;(try simp only [h_]);revert h_)|apply ah|apply ai|apply ae|apply And.intro|with_reducible intro h_|trivial|simp only [go_sem,ak];omega)
     refine ⟨az.fn rfl LX ?_⟩
     repeat' (first|omega|(try apply aj);simp only [go_sem,sevalprocAttr,b2,hz]|apply ag<;>(intro h_;(try simp only [h_]);revert h_)|apply ah|apply ai|apply ae|apply And.intro|with_reducible intro h_|trivial|simp only [go_sem,ak];omega)
     refine ⟨_,_,_,?_,?_,z,ys',_,rfl,zW,nh,?_,dG,rfl,rfl⟩
     ·simp
     ·rw [dT];refine Wk.sub ?_ ?_<;>(simp only [go_sem,sevalprocAttr,qU])
     ·rw [Et];exact dq
 obtain rfl:k=W:=by omega
 have bk:decide ((k:Int)<index.length)=false:=by simp;omega
 generalize vF:txN arc (aE glue) (fun x=>index.getD x 0) k ends.length k=ts at*;have bC:=fun j=>Er k arc (aE glue) (endN k arc (aE glue) k) j;have CI:=fun j=>GM k arc (aE glue) (endN k arc (aE glue) k) j;have pb:br k arc (aE glue) (endN k arc (aE glue) k) 0=(endN k arc (aE glue) k,0):=rfl
 have eh: ∀j,br k arc (aE glue) (endN k arc (aE glue) k) (j+1)=if aE glue j<0\/(br k arc (aE glue) (endN k arc (aE glue) k) j).1.getD j false=true then br k arc (aE glue) (endN k arc (aE glue) k) j else (lS arc (aE glue) (k+1) (br k arc (aE glue) (endN k arc (aE glue) k) j).1 j,(br k arc (aE glue) (endN k arc (aE glue) k) j).2+1):=fun j=>rfl
 generalize br k arc (aE glue) (endN k arc (aE glue) k)=C at*;generalize endN k arc (aE glue) k=oL at*;have Sm:ts.length=ends.length:=tl
 repeat' (first|omega|(try apply aj);simp only [go_sem,sevalprocAttr,bk]|apply ag<;>(intro h_;(try simp only [h_]);revert h_)|apply ah|apply ai|apply ae|apply And.intro|with_reducible intro h_|trivial|simp only [go_sem,ak];omega)
 refine bN.intro (fun n fr H=> ∃j:Nat,j<=k/\n=k-j/\fr=[(75,I j),(74,I glue.length),(73,roI glue),(15,I (C j).2),(10, .sl 1 4 0 ends.length),(9, .sl 1 3 0 glue.length),(8, .fn 193 [.rp (.lst [I aS,roI glue,roI index,roI ends]) 0, .rp (.lst [.str (pS T)]) 0, .rp (.lst [I j0,I j1,I j2,I j3]) 0]),(3, .rp (.lst [I aS,roI glue,roI index,roI ends]) 0)]/\H=[(4, .cells 5 (.lst (ts.map (AV.int .u8)))),(3, .cells 4 (.bools (C j).1))]) ?_ ?_
 ·refine ⟨_,_,_,?_,0,by omega,rfl,rfl,rfl⟩;rw [pb];refine Wk.sub ?_ ?_<;>(simp only [go_sem,sevalprocAttr,qU])
 rintro n fr H ⟨j,hj,rfl,rfl,rfl⟩;by_cases oa:j<k
 ·have bj:decide ((j:Int)<glue.length)=true:=by simp;omega
  have hl:=bC j;have hle:=CI j;have hs:=eh j;have SK:=hC j oa;generalize hCe:C j=C0 at*;obtain ⟨sn,c⟩:=C0;simp only at hl hle hs SK;by_cases hg:glue.getD j 0<0
  ·have b1:decide (glue.getD j 0<0)=true:=by rw [decide_eq_true_eq];exact hg
   rw [if_pos (.inl hg)] at hs
   repeat' (first|omega|(try apply aj);simp only [go_sem,sevalprocAttr,bj,b1]|apply ag<;>(intro h_;(try simp only [h_]);revert h_)|apply ah|apply ai|apply ae|apply And.intro|with_reducible intro h_|trivial|simp only [go_sem,ak];omega)
   refine ⟨_,_,_,?_,?_,⟨j+1,by omega,rfl,rfl,rfl⟩⟩
   ·omega
   ·rw [hs];refine Wk.sub ?_ ?_<;>(simp only [go_sem,sevalprocAttr,qU])
  ·have b1:decide (glue.getD j 0<0)=false:=by rw [decide_eq_false_iff_not];exact hg
   cases pO:sn.getD j false with
   |true=>
    rw [if_pos (.inr pO)] at hs
    repeat' (first|omega|(try apply aj);simp only [go_sem,sevalprocAttr,bj,b1,pO]|apply ag<;>(intro h_;(try simp only [h_]);revert h_)|apply ah|apply ai|apply ae|apply And.intro|with_reducible intro h_|trivial|simp only [go_sem,ak];omega)
    refine ⟨_,_,_,?_,?_,⟨j+1,by omega,rfl,rfl,rfl⟩⟩
    ·omega
    ·rw [hs];refine Wk.sub ?_ ?_<;>(simp only [go_sem,sevalprocAttr,qU])
   |false=>
    rw [if_neg (by rw [pO];simp;exact Int.not_lt.1 hg)] at hs;obtain ⟨zs,sq,BH⟩:=SK (Int.not_lt.1 hg) pO;have zB:=Oi sq (k+1) (by omega);rw [zB] at hs
    repeat' (first|omega|(try apply aj);simp only [go_sem,sevalprocAttr,bj,b1,pO]|apply ag<;>(intro h_;(try simp only [h_]);revert h_)|apply ah|apply ai|apply ae|apply And.intro|with_reducible intro h_|trivial|simp only [go_sem,ak];omega)
    refine bN.intro (fun n fr H=> ∃(z:Nat) (Dj:List Nat) (s1:List Bool),n=Dj.length/\z<k/\tA arc (aE glue) s1 z Dj/\s1.length=k/\Dj.foldl (b5 (aE glue)) s1=zs.foldl (b5 (aE glue)) sn/\fr=[(18,I z),(75,I j),(74,I glue.length),(73,roI glue),(15,I ((c:Int)+1)),(10, .sl 1 4 0 ends.length),(9, .sl 1 3 0 glue.length),(8, .fn 193 [.rp (.lst [I aS,roI glue,roI index,roI ends]) 0, .rp (.lst [.str (pS T)]) 0, .rp (.lst [I j0,I j1,I j2,I j3]) 0]),(3, .rp (.lst [I aS,roI glue,roI index,roI ends]) 0)]/\H=[(4, .cells 5 (.lst (ts.map (AV.int .u8)))),(3, .cells 4 (.bools s1))]) ?_ ?_
    ·refine ⟨_,_,_,?_,j,zs,sn,rfl,oa,sq,by omega,rfl,rfl,rfl⟩;refine Wk.sub ?_ ?_<;>(simp only [go_sem,sevalprocAttr,qU])
    rintro n fr H ⟨z,Dj,s1,rfl,hz,xD,KM,dG,rfl,rfl⟩;cases xD with
    |stop bo=>
     simp only [List.foldl_nil] at dG
     repeat' (first|omega|(try apply aj);simp only [go_sem,sevalprocAttr,bo]|apply ag<;>(intro h_;(try simp only [h_]);revert h_)|apply ah|apply ai|apply ae|apply And.intro|with_reducible intro h_|trivial|simp only [go_sem,ak];omega)
     refine ⟨_,_,_,?_,?_,⟨j+1,by omega,rfl,rfl,rfl⟩⟩
     ·omega
     ·rw [hs,dG];have ec:((c+1:Nat):Int)=(c:Int)+1:=by omega
      refine Wk.sub ?_ ?_<;>(simp only [go_sem,sevalprocAttr,qU,ec])
    | @step _ _ SU bo rZ nh=>
      obtain ⟨gW,ge⟩:=Ln z hz rZ;have rY:glue.getD z 0=((aE glue z).toNat:Int):=ge.symm;have LX:=L4 _ gW;rw [List.foldl_cons] at dG;have dT:b5 (aE glue) s1 z=(s1.set z true).set (aE glue z).toNat true:=rfl;have LJ:=LZ _ gW;generalize (aE glue z).toNat=y at*
      repeat' (first|omega|(try apply aj);simp only [go_sem,sevalprocAttr,bo,rY,List.length_set,Int.toNat_natCast]|apply ag<;>(intro h_;(try simp only [h_]);revert h_)|apply ah|apply ai|apply ae|apply And.intro|with_reducible intro h_|trivial|simp only [go_sem,ak];omega)
      refine ⟨az.fn rfl LX ?_⟩
      repeat' (first|omega|(try apply aj);simp only [go_sem,sevalprocAttr,bo,rY]|apply ag<;>(intro h_;(try simp only [h_]);revert h_)|apply ah|apply ai|apply ae|apply And.intro|with_reducible intro h_|trivial|simp only [go_sem,ak];omega)
      refine ⟨_,_,_,?_,?_,arc y,SU,_,rfl,LJ,nh,?_,dG,rfl,rfl⟩
      ·simp
      ·rw [dT];refine Wk.sub ?_ ?_<;>(simp only [go_sem,sevalprocAttr,qU])
      ·rw [Et];exact KM
 ·obtain rfl:j=k:=by omega
  have bj:decide ((j:Int)<glue.length)=false:=by simp;omega
  have hle:=CI j;generalize (C j).1=snf at*;generalize (C j).2=cf at*
  repeat' (first|omega|(try apply aj);simp only [go_sem,sevalprocAttr,bj]|apply ag<;>(intro h_;(try simp only [h_]);revert h_)|apply ah|apply ai|apply ae|apply And.intro|with_reducible intro h_|trivial|simp only [go_sem,ak];omega)
  refine dM.Mf (e:=5) (ts:=ts) (t:=5) rfl rfl (by simp only [go_sem,sevalprocAttr]) (by simp only [go_sem,sevalprocAttr]) (by simp only [go_sem,sevalprocAttr]) (by rw [Sm];rfl) rfl ?_
  repeat' (first|omega|(try apply aj);simp only [go_sem,sevalprocAttr]|apply ag<;>(intro h_;(try simp only [h_]);revert h_)|apply ah|apply ai|apply ae|apply And.intro|with_reducible intro h_|trivial|simp only [go_sem,ak];omega)
  all_goals exact aM.refl _
end Go.Proofs.YtphjphpmfflfpaaGreatDoor
namespace Go.Proofs.YtphjphpmfflfpaaGreatDoor
def bu (ends:List Int) (c:Int):List Int:=ends++[4*c,4*c+1,4*c+2,4*c+3]
theorem qq (ends:List Int) (c:Int):(bu ends c).length=ends.length+4:=by simp [bu]
def ndF (hs:List Int):Nat->Int->Option Int
 |0=>fun _=>none
 |k+1=>fun h=>if h=hs.getD k 0 then some (k:Int) else ndF hs k h
def eG (hs m:List Int) (x:Nat):Option Int:=ndF hs hs.length (m.getD (hs.getD x 0).toNat 0)
def aO (hs m:List Int):Nat->List Int
 |0=>[]
 |k+1=>if (eG hs m k).isSome then aO hs m k else aO hs m k++[hs.getD k 0]
def kh (hs m:List Int) (x:Nat):Int:=(eG hs m x).getD (-1)
def mg (hs m:List Int) (x:Nat):Int:=if (eG hs m x).isSome then-1 else (aO hs m x).length
def cw (f:Nat->Int) (W k:Nat):List Int:=(List.range W).map fun x=>if x<k then f x else 0
theorem Ay (f:Nat->Int) (W k:Nat):(cw f W k).length=W:=by simp [cw]
theorem QZ (f:Nat->Int) (W:Nat):cw f W 0=List.replicate W 0:=by
 apply List.ext_getElem?;intro i;by_cases h:i<W<;>simp [cw,h]
theorem Of (f:Nat->Int) (W k:Nat) (h:k<W):(cw f W k).set k (f k)=cw f W (k+1):=by
 apply List.ext_getElem?;intro i;rw [List.getElem?_set,Ay];by_cases e:k=i
 ·subst e;simp [cw,h]
 ·rw [if_neg e];by_cases hi:i<W
  ·simp only [cw,List.getElem?_map,List.getElem?_range hi,Option.map_some];by_cases h2:i<k
   ·rw [if_pos h2,if_pos (by omega)]
   ·rw [if_neg h2,if_neg (by omega)]
  ·simp [cw,hi]
theorem Oe (f:Nat->Int) (W x:Nat) (h:x<W):(cw f W W).getD x 0=f x:=by
 simp [cw,List.getD_eq_getElem?_getD,h]
theorem HU (hs m:List Int): ∀k,(aO hs m k).length<=k
 |0=>Nat.le_refl _
 |k+1=>by
  have:=HU hs m k
  simp only [aO]
  split
  ·omega
  ·simp;omega
open Go Go.RowKit
section
variable {P:Program} {α β:Type}
def kH (P:Program) (s:Sem α):Prop:=(∃r,∀w,s.run P w= .ok r w)\/ ∀w r w1,s.run P w≠ .ok r w1
theorem kH.pure (x:α):kH P (Pure.pure x:Sem α):= .inl ⟨x,fun w=>by simp⟩
theorem kH.stuck (x:String):kH P (stuck x:Sem α):= .inr fun w r w1 h=>by simp [Go.stuck] at h
theorem kH.bind {s:Sem α} {f:α->Sem β} (h:kH P s) (hf: ∀x,kH P (f x)):kH P (s>>=f):=by
 rcases h with ⟨r,hr⟩|hn
 ·rcases hf r with ⟨q,hq⟩|hm
  ·exact .inl ⟨q,fun w=>by rw [Sem.run_bind,hr w,Result.andThen_ok,hq w]⟩
  ·exact .inr fun w q w1 h=>by rw [Sem.run_bind,hr w,Result.andThen_ok] at h;exact hm _ _ _ h
 ·refine .inr fun w q w1 h=>?_;rw [Sem.run_bind] at h;cases hs:s.run P w with
  |ok r w2=>exact hn _ _ _ hs
  |halt x w2=>rw [hs] at h;simp at h
theorem kH.size (t:Nat):kH P (sizeOf t):=by
 cases h:P.info? t with
 |some i=>exact .inl ⟨i.size,fun w=>by simp [sizeOf,typeInfo,h]⟩
 |none=>exact .inr fun w r w1 g=>by simp [sizeOf,typeInfo,h,Go.stuck] at g
theorem kH.bound (x:Value) (y:Nat) (c:BoundsCode):kH P (Instr.sliceBound x y c):=by
 unfold Instr.sliceBound;refine .bind ?_ fun p=>?_
 ·cases x
  case int k n=>exact .pure _
  case pointer a=>cases a<;>first|exact .stuck _|exact .inr fun w r w1 g=>by simp [asIntOf,unsupported] at g
  all_goals exact .stuck _
 ·obtain ⟨k,i⟩:=p;simp only
  split
  ·exact .pure _
  ·exact .inr fun w r w1 g=>by
    simp [boundsPanic,runtimePanic,goPanic] at g
    split at g<;>(try split at g)<;>cases g
theorem kH.bounds (b:Bool) (len cap:Nat) (lo hi mx:Option Value):kH P (Instr.sliceBounds b len cap lo hi mx):=by
 unfold Instr.sliceBounds;cases lo<;>cases hi<;>cases mx<;>dsimp only
 all_goals repeat (first|exact .pure _|exact .bound _ _ _|exact .stuck _|refine .bind ?_ fun _=>?_)
theorem kH.rA {s s':Sem α} (h: ∀w,s.run P w=s'.run P w) (hs:kH P s'):kH P s:=by
 rcases hs with ⟨r,hr⟩|hn
 ·exact .inl ⟨r,fun w=>by rw [h,hr]⟩
 ·exact .inr fun w r w1 g=>hn w r w1 (by rw [←h];exact g)
theorem kH.slice {t:Nat} {e:Nat} (h:tk P t= .slice e) (x:Value) (lo hi mx:Option Value):kH P (Instr.sliceAt t x lo hi mx):=by
 refine .rA (fun w=>AY (iu h) (by simp) x lo hi mx) ?_;cases x
 case slice a len cap=>
  refine .rA (s':=do
   let (l,h,m)←Instr.sliceBounds true len cap lo hi mx
   let size←sizeOf e
   Pure.pure (Value.slice (if m=l then a else a.map (·.add (l*size))) (h-l) (m-l))) (fun w=>?_) (.bind (.bounds _ _ _ _ _ _) fun _=> .bind (.size _) fun _=> .pure _)
  simp [Instr.slice,run_underlying (iu h)]
 all_goals exact .inr fun w r w1 g=>by simp [Instr.slice,run_underlying (iu h),Go.stuck] at g
def Dp (P:Program):Op->Bool
 | .move _| .assign _=>true
 | .slice t _ _ _ none=>match tk P t with
   | .slice _=>true
   |_=>false
 |_=>false
theorem Tz {o:Oper} (h:Dp P o.op=true) (ev:Operand->Value):kH P (execOp ev o):=by
 cases ho:o.op with
 |move x=>simp only [execOp,ho];exact .pure _
 |assign x=>simp only [execOp,ho];exact .pure _
 |slice t x lo hi mx=>
  rw [ho] at h;cases mx with
  |some _=>cases h
  |none=>
   simp only [Dp] at h
   split at h
   ·rename_i e hk
    simp only [execOp,ho];exact .bind (.slice hk _ _ _ _) fun _=> .pure _
   ·cases h
 |_=>rw [ho] at h;cases h
theorem WV {o:Oper} (h:Dp P o.op=true) {N:Nat} {fr:Fr} {H:Hp} {K:Fr->Hp->Prop} (hq:awO P N o fr H K): ∃p r,quF P H (evA fr) o.op=some (p,r)/\p/\dok o.dst N=true/\K (fput fr o.dst r) H:=by
 obtain ⟨_,hq⟩:=hq
 split at hq
 ·rename_i p r e;exact ⟨p,r,e,hq⟩
 ·rename_i e
  exfalso;cases ho:o.op with
  |move x=>rw [ho] at e;simp [quF,opF] at e
  |assign x=>rw [ho] at e;simp [quF,opF] at e
  |slice t x lo hi mx=>
   simp only [ho,alF,awX,spOp] at hq;exact absurd hq.1 (by decide)
  |_=>rw [ho] at h;cases h
end
def eagN (P:Program) (ops:Array Oper) (listed:Array Bool):List (Nat×Tr)->Bool
 |[(i,_)]=>Region.free .any ops listed i&&(Region.ready .any ops listed).contains i&&(match ops[i]? with|some o=>o.guard.isNone&&Dp P o.op|none=>false)
 |_=>false
mutual
def chkE (P:Program) (ops:Array Oper) (listed:Array Bool):Nat->Tr->Bool
 |0, .done=>(Region.ready .any ops listed).isEmpty
 |f+1, .node l=>(eagN P ops listed l||(!(Region.ready .any ops listed).isEmpty&&(Region.ready .any ops listed==l.map (·.1))))&&Dn P ops listed f l
 |_,_=>false
def Dn (P:Program) (ops:Array Oper) (listed:Array Bool) (f:Nat):List (Nat×Tr)->Bool
 |[]=>true
 |(i,t)::r=>chkE P ops (listed.setIfInBounds i true) f t&&Dn P ops listed f r
end
theorem Ia {P:Program} {ops:Array Oper} {listed:Array Bool} {f:Nat}: ∀(l:List (Nat×Tr)),Dn P ops listed f l=true-> ∀q∈l,chkE P ops (listed.setIfInBounds q.1 true) f q.2=true
 |[],_,q,hq=>by cases hq
 |(i,t)::r,h,q,hq=>by
  simp only [Dn,Bool.and_eq_true] at h;rcases List.mem_cons.1 hq with e|e
  ·subst e;exact h.1
  ·exact Ia r h.2 q e
theorem WU {P:Program} {N:Nat} {ops:Array Oper} {B:Nat} {w0:ik} {Mx:Nat->Prop} {K:Fr->Hp->Prop} (hsel:Region.noSelect ops=true) (Q:Exit->Act->World->Prop) (hP: ∀c a w,¬Q (.panic c) a w) (hQ: ∀a' w' ρ' fr' H',K fr' H'->aC B w0 Mx N w' ρ' fr' H' a'->Q .normal a' w'): ∀(f:Nat) (t:Tr) (listed:Array Bool) (w:World) (ρ:Nat->Addr) (fr:Fr) (H:Hp) (a:Act),chkE P ops listed f t=true->awT P N ops t fr H K->aC B w0 Mx N w ρ fr H a->wpAny P .any ops Q f listed a w:=by
 intro f
 induction f with
 |zero=>
  intro t listed w ρ fr H a hc h hs;cases t with
  |done=>
   simp only [chkE,List.isEmpty_iff] at hc;simp only [awT] at h;exact ⟨hc,hQ _ _ ρ _ _ h hs⟩
  |node l=>simp [chkE] at hc
 |succ f ih=>
  intro t listed w ρ fr H a hc h hs;cases t with
  |done=>simp [chkE] at hc
  |node l=>
   simp only [chkE,Bool.and_eq_true,Bool.or_eq_true] at hc;obtain ⟨gm,pX⟩:=hc;simp only [awT] at h;rcases gm with gm|gm
   ·unfold eagN at gm
    split at gm
    ·rename_i i t'
     simp only [Bool.and_eq_true] at gm;obtain ⟨⟨hf,hr⟩,ho⟩:=gm;cases hoi:ops[i]? with
     |none=>rw [hoi] at ho;cases ho
     |some o=>
      rw [hoi] at ho;simp only [Bool.and_eq_true,Option.isNone_iff_eq_none] at ho;have h1:=EA _ h (i,t') (List.mem_singleton.2 rfl);have h2:=Ia _ pX (i,t') (List.mem_singleton.2 rfl);simp only [hoi,Option.toList_some,awL,ho.1] at h1;obtain ⟨p,r,hq,hp,hd,hk⟩:=WV ho.2 h1;obtain ⟨v,aH,hv⟩:=EN (P:=P) (o:=o) (a:=a) hs.objs hs.ev (fun s d x e=>by rw [e] at ho;cases ho.2) hq hp
      have hw:Region.wanted o (yielded ops a.tmps)=true:=by simp [Region.wanted,ho.1]
      have hy:Yields P ops o v a:= .inl ⟨hw,fun w'=>by
       rcases Tz ho.2 a.eval with ⟨r',iN⟩|hn
       ·have:=iN w;rw [aH] at this;cases this;exact iN w'
       ·exact absurd aH (hn _ _ _)⟩
      exact wpAny_take hoi hsel hf hr (fun c a w h=>absurd h (hP c _ _)) hy (ih t' _ w ρ _ _ _ h2 hk (hs.put hd hv))
    ·cases gm
   ·simp only [Bool.and_eq_true,Bool.not_eq_true',beq_iff_eq] at gm;refine ⟨fun eK=>by rw [eK] at gm;simp at gm,fun i hi=>?_⟩;rw [gm.2] at hi;obtain ⟨q,hq,rfl⟩:=List.mem_map.1 hi;have h1:=EA l h q hq;have h2:=Ia l pX q hq;have hr:q.1∈Region.ready .any ops listed:=by rw [gm.2];exact List.mem_map_of_mem hq
    obtain ⟨_,o,g2,_⟩:=mem_ready.1 hr;rw [g2] at h1;exact PA g2 h1 hs _ _ fun a' w' ρ' fr' H' hk bD=>ih q.2 _ w' ρ' fr' H' a' h2 hk bD
def Bs (Q:Act->World->Prop):Exit->Act->World->Prop
 | .normal,a,w=>Q a w
 |_,_,_=>False
theorem an.ay {P:Program} {N:Nat} {ops:Array Oper} {id:Nat} {fr:Fr} {H:Hp} {Q:Exit->Fr->Hp->Prop} (t:Tr) (fV:(chkE P ops (Array.replicate ops.size false) ops.size t&&Region.noSelect ops)=true) (hm:P.follows .mixedOrders=true)
  (h:awT P N ops t fr H (Q .normal)):an P N id ops fr H Q:=by
 simp only [Bool.and_eq_true] at fV;refine ⟨fun B w0 Mx w ρ a hs=>wp_mono (wp_region_any (Q:=Bs fun a' w'=> ∃ρ' fr' H',Q .normal fr' H'/\aC B w0 Mx N w' ρ' fr' H' a') hm (WU fV.2 _ (fun _ _ _ h=>h) (fun _ _ ρ' fr' H' hk bD=>⟨ρ',fr',H',hk,bD⟩) ops.size t _ _ ρ fr H a fV.1 h hs.draw)) fun e a' w' h=>?_⟩;cases e<;>first|exact h|exact h.elim
end Go.Proofs.YtphjphpmfflfpaaGreatDoor
