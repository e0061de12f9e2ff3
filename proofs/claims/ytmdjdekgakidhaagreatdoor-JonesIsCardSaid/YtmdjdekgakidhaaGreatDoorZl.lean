/- Layer 17: follow: the new pairing, and the circles that are closed. -/
import Derived.Test.YtmdjdekgakidhaaGreatDoorZk
import Derived.Test.YtmdjdekgakidhaaGreatDoorZa
import Derived.Test.YtmdjdekgakidhaaGreatDoorZd
set_option linter.unusedSimpArgs false
set_option linter.unusedVariables false
namespace Go.Proofs.YtmdjdekgakidhaaGreatDoor
open Go Go.RowKit
set_option maxRecDepth 100000
set_option maxHeartbeats 8000000
abbrev fK (aN:Nat) (T:List Nat) (J:List Int) (x:Nat):Nat:=(jJ aN T J x).toNat
abbrev aC (glue:List Int) (x:Nat):Int:=glue.getD x 0
theorem JZ (n:Nat):(List.replicate n [AV.int .u8 0]).flatten=(List.replicate n (0:Int)).map (AV.int .u8):=by
 induction n with
 |zero=>rfl
 |succ n ih=>rw [List.replicate_succ,List.flatten_cons,ih,List.replicate_succ];rfl
theorem Sa {ts:List Int} {x:AV} (h:x∈ts.map (AV.int .u8)): ∃n,x= .int .u8 n:=by
 obtain ⟨n,_,rfl⟩:=List.mem_map.1 h;exact ⟨n,rfl⟩
theorem Q5 (ts:List Int):(ts.map (AV.int .u8)).all p1=true:=List.all_eq_true.2 fun x hx=>by obtain ⟨n,rfl⟩:=Sa hx;rfl
theorem qI (H:Hp) (ts:List Int):(ts.map (AV.int .u8)).all (s3 H)=true:=List.all_eq_true.2 fun x hx=>by obtain ⟨n,rfl⟩:=Sa hx;rfl
theorem IU (H:Hp) (n:Nat) (ts:List Int):(ts.map (AV.int .u8)).map (aI H (n+1))=ts.map (AV.int .u8):=Sr (Q5 ts) H n
theorem JY (H:Hp) (n:Nat) (ts:List Int):(∀x∈ts.map (AV.int .u8),aP H (n+1) x)=True:=NM (Q5 ts) H n
theorem RM (ts:List Int) (i:Nat) (v:Int):(ts.map (AV.int .u8)).set i (.int .u8 v)=(ts.set i v).map (AV.int .u8):=List.map_set.symm
structure Q4 (aN:Nat) (glue index:List Int) (E:Nat) (T:List Nat) (J:List Int):Prop where
 gl:glue.length=aN+4
 il:index.length=aN+4
 hT:T.length=aN
 hb: ∀i∈T,i<100
 hJ:J.length=4
 Ml: ∀i,0<=J.getD i 0/\J.getD i 0<=3
 hc:aN<=90
 hE:E<=99
 gr: ∀x,x<aN+4-> -1<=glue.getD x 0/\glue.getD x 0<aN+4
 ix: ∀x,x<aN+4->(0<=glue.getD x 0->index.getD x 0= -1)/\(glue.getD x 0<0->0<=index.getD x 0/\index.getD x 0<E)
 ar: ∀x,x<aN+4->0<=jJ aN T J x/\jJ aN T J x<aN+4
 hP: ∀k,k<aN+4->glue.getD k 0<0-> ∃ys e,jV (fK aN T J) (aC glue) k ys e/\ys.length<=aN+4
 hC: ∀k,k<aN+4->0<=glue.getD k 0->(bA (aN+4) (fK aN T J) (aC glue) (endN (aN+4) (fK aN T J) (aC glue) (aN+4)) k).1.getD k false=false-> ∃zs,ti (fK aN T J) (aC glue) (bA (aN+4) (fK aN T J) (aC glue) (endN (aN+4) (fK aN T J) (aC glue) (aN+4)) k).1 k zs/\zs.length<=aN+4
theorem jV.ME {arc:Nat->Nat} {glue:Nat->Int} {W:Nat} (fc: ∀x,x<W->arc x<W) (LJ: ∀x,x<W->0<=glue x->(glue x).toNat<W) {u e:Nat} {ys:List Nat} (h:jV arc glue u ys e):u<W->e<W/\glue e<0:=by
 induction h with
 |nil h=>exact fun hu=>⟨fc _ hu,h⟩
 |cons h k ih=>exact fun hu=>ih (LJ _ (fc _ hu) h)
theorem WO (aN:Nat) (glue index ends:List Int) (T:List Nat) (J:List Int) (h:Q4 aN glue index ends.length T J):
  Fn Tryz.prog 143 [.agg [I aN,roI glue,roI index,roI ends], .str (pS T), .agg (J.map (AV.int .i64))]
   (.tup [.str (nT (txN (fK aN T J) (aC glue) (fun x=>index.getD x 0) (aN+4) ends.length (aN+4))),I (bA (aN+4) (fK aN T J) (aC glue) (endN (aN+4) (fK aN T J) (aC glue) (aN+4)) (aN+4)).2]):=by
 obtain ⟨j0,j1,j2,j3,rfl⟩: ∃j0 j1 j2 j3,J=[j0,j1,j2,j3]:=by
  have:=h.hJ
  match J,this with
  |[a,b,c,d],_=>exact ⟨a,b,c,d,rfl⟩
 have hA:=fun x (hx:x<aN+4)=>IW aN x glue index ends T [j0,j1,j2,j3] h.hT h.hb h.hJ h.Ml hx (by have:=h.hc;omega);have Ms: ∀x,x<aN+4->jJ aN T [j0,j1,j2,j3] x=(fK aN T [j0,j1,j2,j3] x:Int)/\fK aN T [j0,j1,j2,j3] x<aN+4:=fun x hx=>by have:=h.ar x hx;unfold fK;exact ⟨by omega,by omega⟩
 obtain ⟨Fg,bH,_,_,_,_,Y1,Zk,LJ,Ff,_,hP,hC⟩:=h;have Mv: ∀x,x<aN+4->Fn Tryz.prog 156 [I x, .rp (.lst [I aN,roI glue,roI index,roI ends]) 0, .rp (.lst [.str (pS T)]) 0, .rp (.lst [I j0,I j1,I j2,I j3]) 0] (I (fK aN T [j0,j1,j2,j3] x:Nat)):=fun x hx=>by
  have:=hA x hx
  rw [(Ms x hx).1] at this;exact this
 have Mt:=fun x hx=>(Ms x hx).2;clear hA Ms;generalize fK aN T [j0,j1,j2,j3]=arc at*;have Me:aN+4<=94:=by omega
 generalize hWd:aN+4=W at*;obtain ⟨S,hS⟩: ∃S,S=Cs.lst [I aN,roI glue,roI index,roI ends]:=⟨_,rfl⟩;have LN: ∀x,x<W->0<=aC glue x->(aC glue x).toNat<W/\((aC glue x).toNat:Int)=aC glue x:=fun x hx h0=>by
  have:=LJ x hx
  unfold aC at*;exact ⟨by omega,by omega⟩
 refine Fn.ai [.tmp 6, .tmp 7] Tryz.func143 rfl rfl (by decide) (by simp [Tryz.ntmps143]) ?_;rw [Tryz.ntmps143]
 repeat' (first|omega|(try apply ag);simp only [go_sem,sevalprocAttr,JZ,zzC]|apply ae<;>(intro h_;(try simp only [h_]);revert h_)|apply And.intro|with_reducible intro h_|trivial|simp only [go_sem,ah];omega)
 refine aR.intro (fun n fr H=> ∃k:Nat,k<=W/\n=W-k/\fr=[(31,I k),(30,I index.length),(29,roI index),(10, .sl 1 4 0 ends.length),(9, .sl 1 3 0 glue.length),(8, .fn 156 [.rp (.lst [I aN,roI glue,roI index,roI ends]) 0, .rp (.lst [.str (pS T)]) 0, .rp (.lst [I j0,I j1,I j2,I j3]) 0]),(3, .rp (.lst [I aN,roI glue,roI index,roI ends]) 0)]/\H=[(4, .cells 5 (.lst ((txN arc (aC glue) (fun x=>index.getD x 0) W ends.length k).map (AV.int .u8)))),(3, .cells 4 (.bools (endN W arc (aC glue) k)))]) ?_ ?_
 ·refine ⟨_,_,_,?_,0,by omega,rfl,rfl,rfl⟩;refine Wk.trans (Wk.jU [0,1,2] ?_ ?_ rfl rfl) (Wk.sub ?_ ?_)
  all_goals (simp only [go_sem,sevalprocAttr,txN,endN,Fg,zzC,qI,IU,JY])
 rintro n fr H ⟨k,hk,rfl,rfl,rfl⟩;have tl:=wv arc (aC glue) (fun x=>index.getD x 0) W ends.length k;have sl:=Ed W arc (aC glue) k;by_cases y5:k<W
 ·have bk:decide ((k:Int)<index.length)=true:=by simp;omega
  have B4:=Ff k y5;by_cases hg:0<=glue.getD k 0
  ·have h1:=B4.1 hg;have b1:decide (index.getD k 0<0)=true:=by rw [decide_eq_true_eq];omega
   have e1:txN arc (aC glue) (fun x=>index.getD x 0) W ends.length (k+1)=txN arc (aC glue) (fun x=>index.getD x 0) W ends.length k:=by simp only [txN];rw [if_pos (by omega)]
   have e2:endN W arc (aC glue) (k+1)=endN W arc (aC glue) k:=by simp only [endN];rw [if_pos (show 0<=aC glue k from hg)]
   repeat' (first|omega|(try apply ag);simp only [go_sem,sevalprocAttr,bk,b1]|apply ae<;>(intro h_;(try simp only [h_]);revert h_)|apply And.intro|with_reducible intro h_|trivial|simp only [go_sem,ah];omega)
   refine ⟨_,_,_,?_,?_,⟨k+1,by omega,rfl,rfl,rfl⟩⟩
   ·omega
   ·rw [e1,e2];refine Wk.sub ?_ ?_<;>(simp only [go_sem,sevalprocAttr,qI])
  ·have h1:=B4.2 (by omega);have b1:decide (index.getD k 0<0)=false:=by rw [decide_eq_false_iff_not];omega
   obtain ⟨ys,e,hp,iI⟩:=hP k y5 (by omega);have aF:=yu hp (W+1) (endN W arc (aC glue) k) (by omega);have oB:=yu hp (W+1) [] (by omega);obtain ⟨heW,heg⟩:=hp.ME Mt (fun x hx h0=>(LN x hx h0).1) y5;have e1:txN arc (aC glue) (fun x=>index.getD x 0) W ends.length (k+1)=(txN arc (aC glue) (fun x=>index.getD x 0) W ends.length k).set (index.getD k 0).toNat (97+index.getD e 0):=by
    simp only [txN];rw [if_neg (by omega),oB]
   have e2:endN W arc (aC glue) (k+1)=ys.foldl (cj (aC glue)) (endN W arc (aC glue) k):=by
    simp only [endN];rw [if_neg (show¬0<=aC glue k from hg),aF]
   generalize txN arc (aC glue) (fun x=>index.getD x 0) W ends.length k=ts at*;generalize endN W arc (aC glue) k=ot at*;have Zo:=Mv k y5
   repeat' (first|omega|(try apply ag);simp only [go_sem,sevalprocAttr,bk,b1]|apply ae<;>(intro h_;(try simp only [h_]);revert h_)|apply And.intro|with_reducible intro h_|trivial|simp only [go_sem,ah];omega)
   refine ⟨au.fn rfl Zo ?_⟩
   repeat' (first|omega|(try apply ag);simp only [go_sem,sevalprocAttr,bk,b1]|apply ae<;>(intro h_;(try simp only [h_]);revert h_)|apply And.intro|with_reducible intro h_|trivial|simp only [go_sem,ah];omega)
   refine aR.intro (fun n fr H=> ∃(u:Nat) (zs:List Nat) (sn:List Bool),n=zs.length/\u<W/\jV arc (aC glue) u zs e/\sn.length=W/\zs.foldl (cj (aC glue)) sn=ys.foldl (cj (aC glue)) ot/\fr=[(13,I (arc u:Nat)),(12,I (index.getD k 0)),(31,I k),(30,I index.length),(29,roI index),(10, .sl 1 4 0 ends.length),(9, .sl 1 3 0 glue.length),(8, .fn 156 [.rp (.lst [I aN,roI glue,roI index,roI ends]) 0, .rp (.lst [.str (pS T)]) 0, .rp (.lst [I j0,I j1,I j2,I j3]) 0]),(3, .rp (.lst [I aN,roI glue,roI index,roI ends]) 0)]/\H=[(4, .cells 5 (.lst (ts.map (AV.int .u8)))),(3, .cells 4 (.bools sn))]) ?_ ?_
   ·refine ⟨_,_,_,?_,k,ys,ot,rfl,y5,hp,sl,rfl,rfl,rfl⟩;refine Wk.sub ?_ ?_<;>(simp only [go_sem,sevalprocAttr,qI])
   rintro n fr H ⟨u,zs,sn,rfl,hu,Yq,dL,dN,rfl,rfl⟩;have Tp:=Mt u hu;cases Yq with
   |nil hn=>
    have b2:decide (0<=glue.getD (arc u) 0)=false:=by have:aC glue (arc u)=glue.getD (arc u) 0:=rfl;rw [decide_eq_false_iff_not];omega
    have Ta:=(Ff (arc u) Tp).2 hn;have w1:IntKind.u8.wrap (97+index.getD (arc u) 0)=97+index.getD (arc u) 0:=IntWalk.u8_in _ (by omega);simp only [List.foldl_nil] at dN;rw [←dN] at e2
    repeat' (first|omega|(try apply ag);simp only [go_sem,sevalprocAttr,b2,w1,RM,List.length_map,zzC]|apply ae<;>(intro h_;(try simp only [h_]);revert h_)|apply And.intro|with_reducible intro h_|trivial|simp only [go_sem,ah];omega)
    refine ⟨_,_,_,?_,?_,⟨k+1,by omega,rfl,rfl,rfl⟩⟩
    ·omega
    ·rw [e1,e2];refine Wk.sub ?_ ?_<;>(simp only [go_sem,sevalprocAttr,qI,RM])
   | @cons _ _ ys' hc rE=>
     obtain ⟨zW,ze⟩:=LN (arc u) Tp hc;have b2:decide (0<=glue.getD (arc u) 0)=true:=by have:aC glue (arc u)=glue.getD (arc u) 0:=rfl;rw [decide_eq_true_eq];omega
     have hz:glue.getD (arc u) 0=((aC glue (arc u)).toNat:Int):=ze.symm;have Mr:=Mv _ zW;rw [List.foldl_cons] at dN;have eI:cj (aC glue) sn (arc u)=(sn.set (arc u) true).set (aC glue (arc u)).toNat true:=rfl;generalize (aC glue (arc u)).toNat=z at*
     repeat' (first|omega|(try apply ag);simp only [go_sem,sevalprocAttr,b2,hz,zzL,zzC]|apply ae<;>(intro h_;(try simp only [h_]);revert h_)|apply And.intro|with_reducible intro h_|trivial|simp only [go_sem,ah];omega)
     refine ⟨au.fn rfl Mr ?_⟩
     repeat' (first|omega|(try apply ag);simp only [go_sem,sevalprocAttr,b2,hz]|apply ae<;>(intro h_;(try simp only [h_]);revert h_)|apply And.intro|with_reducible intro h_|trivial|simp only [go_sem,ah];omega)
     refine ⟨_,_,_,?_,?_,z,ys',_,rfl,zW,rE,?_,dN,rfl,rfl⟩
     ·simp
     ·rw [eI];refine Wk.sub ?_ ?_<;>(simp only [go_sem,sevalprocAttr,qI])
     ·rw [El];exact dL
 obtain rfl:k=W:=by omega
 have bk:decide ((k:Int)<index.length)=false:=by simp;omega
 generalize gO:txN arc (aC glue) (fun x=>index.getD x 0) k ends.length k=ts at*;have b5:=fun j=>Ec k arc (aC glue) (endN k arc (aC glue) k) j;have xg:=fun j=>Gs k arc (aC glue) (endN k arc (aC glue) k) j;have oI:bA k arc (aC glue) (endN k arc (aC glue) k) 0=(endN k arc (aC glue) k,0):=rfl
 have dZ: ∀j,bA k arc (aC glue) (endN k arc (aC glue) k) (j+1)=if aC glue j<0\/(bA k arc (aC glue) (endN k arc (aC glue) k) j).1.getD j false=true then bA k arc (aC glue) (endN k arc (aC glue) k) j else (ll arc (aC glue) (k+1) (bA k arc (aC glue) (endN k arc (aC glue) k) j).1 j,(bA k arc (aC glue) (endN k arc (aC glue) k) j).2+1):=fun j=>rfl
 generalize bA k arc (aC glue) (endN k arc (aC glue) k)=C at*;generalize endN k arc (aC glue) k=ot at*;have Tl:ts.length=ends.length:=tl
 repeat' (first|omega|(try apply ag);simp only [go_sem,sevalprocAttr,bk]|apply ae<;>(intro h_;(try simp only [h_]);revert h_)|apply And.intro|with_reducible intro h_|trivial|simp only [go_sem,ah];omega)
 refine aR.intro (fun n fr H=> ∃j:Nat,j<=k/\n=k-j/\fr=[(75,I j),(74,I glue.length),(73,roI glue),(15,I (C j).2),(10, .sl 1 4 0 ends.length),(9, .sl 1 3 0 glue.length),(8, .fn 156 [.rp (.lst [I aN,roI glue,roI index,roI ends]) 0, .rp (.lst [.str (pS T)]) 0, .rp (.lst [I j0,I j1,I j2,I j3]) 0]),(3, .rp (.lst [I aN,roI glue,roI index,roI ends]) 0)]/\H=[(4, .cells 5 (.lst (ts.map (AV.int .u8)))),(3, .cells 4 (.bools (C j).1))]) ?_ ?_
 ·refine ⟨_,_,_,?_,0,by omega,rfl,rfl,rfl⟩;rw [oI];refine Wk.sub ?_ ?_<;>(simp only [go_sem,sevalprocAttr,qI])
 rintro n fr H ⟨j,hj,rfl,rfl,rfl⟩;by_cases n7:j<k
 ·have bj:decide ((j:Int)<glue.length)=true:=by simp;omega
  have hl:=b5 j;have hle:=xg j;have hs:=dZ j;have TJ:=hC j n7;generalize hCe:C j=C0 at*;obtain ⟨sn,c⟩:=C0;simp only at hl hle hs TJ;by_cases hg:glue.getD j 0<0
  ·have b1:decide (glue.getD j 0<0)=true:=by rw [decide_eq_true_eq];exact hg
   rw [if_pos (.inl hg)] at hs
   repeat' (first|omega|(try apply ag);simp only [go_sem,sevalprocAttr,bj,b1]|apply ae<;>(intro h_;(try simp only [h_]);revert h_)|apply And.intro|with_reducible intro h_|trivial|simp only [go_sem,ah];omega)
   refine ⟨_,_,_,?_,?_,⟨j+1,by omega,rfl,rfl,rfl⟩⟩
   ·omega
   ·rw [hs];refine Wk.sub ?_ ?_<;>(simp only [go_sem,sevalprocAttr,qI])
  ·have b1:decide (glue.getD j 0<0)=false:=by rw [decide_eq_false_iff_not];exact hg
   cases pw:sn.getD j false with
   |true=>
    rw [if_pos (.inr pw)] at hs
    repeat' (first|omega|(try apply ag);simp only [go_sem,sevalprocAttr,bj,b1,pw]|apply ae<;>(intro h_;(try simp only [h_]);revert h_)|apply And.intro|with_reducible intro h_|trivial|simp only [go_sem,ah];omega)
    refine ⟨_,_,_,?_,?_,⟨j+1,by omega,rfl,rfl,rfl⟩⟩
    ·omega
    ·rw [hs];refine Wk.sub ?_ ?_<;>(simp only [go_sem,sevalprocAttr,qI])
   |false=>
    rw [if_neg (by rw [pw];simp;exact Int.not_lt.1 hg)] at hs;obtain ⟨zs,pD,Bj⟩:=TJ (Int.not_lt.1 hg) pw;have za:=OM pD (k+1) (by omega);rw [za] at hs
    repeat' (first|omega|(try apply ag);simp only [go_sem,sevalprocAttr,bj,b1,pw]|apply ae<;>(intro h_;(try simp only [h_]);revert h_)|apply And.intro|with_reducible intro h_|trivial|simp only [go_sem,ah];omega)
    refine aR.intro (fun n fr H=> ∃(z:Nat) (CW:List Nat) (s1:List Bool),n=CW.length/\z<k/\ti arc (aC glue) s1 z CW/\s1.length=k/\CW.foldl (cj (aC glue)) s1=zs.foldl (cj (aC glue)) sn/\fr=[(18,I z),(75,I j),(74,I glue.length),(73,roI glue),(15,I ((c:Int)+1)),(10, .sl 1 4 0 ends.length),(9, .sl 1 3 0 glue.length),(8, .fn 156 [.rp (.lst [I aN,roI glue,roI index,roI ends]) 0, .rp (.lst [.str (pS T)]) 0, .rp (.lst [I j0,I j1,I j2,I j3]) 0]),(3, .rp (.lst [I aN,roI glue,roI index,roI ends]) 0)]/\H=[(4, .cells 5 (.lst (ts.map (AV.int .u8)))),(3, .cells 4 (.bools s1))]) ?_ ?_
    ·refine ⟨_,_,_,?_,j,zs,sn,rfl,n7,pD,by omega,rfl,rfl,rfl⟩;refine Wk.sub ?_ ?_<;>(simp only [go_sem,sevalprocAttr,qI])
    rintro n fr H ⟨z,CW,s1,rfl,hz,xe,Ld,dN,rfl,rfl⟩;cases xe with
    |stop aY=>
     simp only [List.foldl_nil] at dN
     repeat' (first|omega|(try apply ag);simp only [go_sem,sevalprocAttr,aY]|apply ae<;>(intro h_;(try simp only [h_]);revert h_)|apply And.intro|with_reducible intro h_|trivial|simp only [go_sem,ah];omega)
     refine ⟨_,_,_,?_,?_,⟨j+1,by omega,rfl,rfl,rfl⟩⟩
     ·omega
     ·rw [hs,dN];have ec:((c+1:Nat):Int)=(c:Int)+1:=by omega
      refine Wk.sub ?_ ?_<;>(simp only [go_sem,sevalprocAttr,qI,ec])
    | @step _ _ TW aY rL rE=>
      obtain ⟨gW,ge⟩:=LN z hz rL;have rK:glue.getD z 0=((aC glue z).toNat:Int):=ge.symm;have Mr:=Mv _ gW;rw [List.foldl_cons] at dN;have eI:cj (aC glue) s1 z=(s1.set z true).set (aC glue z).toNat true:=rfl;have Mc:=Mt _ gW;generalize (aC glue z).toNat=y at*
      repeat' (first|omega|(try apply ag);simp only [go_sem,sevalprocAttr,aY,rK,zzL,zzC]|apply ae<;>(intro h_;(try simp only [h_]);revert h_)|apply And.intro|with_reducible intro h_|trivial|simp only [go_sem,ah];omega)
      refine ⟨au.fn rfl Mr ?_⟩
      repeat' (first|omega|(try apply ag);simp only [go_sem,sevalprocAttr,aY,rK]|apply ae<;>(intro h_;(try simp only [h_]);revert h_)|apply And.intro|with_reducible intro h_|trivial|simp only [go_sem,ah];omega)
      refine ⟨_,_,_,?_,?_,arc y,TW,_,rfl,Mc,rE,?_,dN,rfl,rfl⟩
      ·simp
      ·rw [eI];refine Wk.sub ?_ ?_<;>(simp only [go_sem,sevalprocAttr,qI])
      ·rw [El];exact Ld
 ·obtain rfl:j=k:=by omega
  have bj:decide ((j:Int)<glue.length)=false:=by simp;omega
  have hle:=xg j;generalize (C j).1=snf at*;generalize (C j).2=cf at*
  repeat' (first|omega|(try apply ag);simp only [go_sem,sevalprocAttr,bj]|apply ae<;>(intro h_;(try simp only [h_]);revert h_)|apply And.intro|with_reducible intro h_|trivial|simp only [go_sem,ah];omega)
  refine dS.MI (e:=5) (ts:=ts) (t:=5) rfl rfl (by simp only [go_sem,sevalprocAttr]) (by simp only [go_sem,sevalprocAttr]) (by simp only [go_sem,sevalprocAttr]) (by rw [Tl];rfl) rfl ?_
  repeat' (first|omega|(try apply ag);simp only [go_sem,sevalprocAttr]|apply ae<;>(intro h_;(try simp only [h_]);revert h_)|apply And.intro|with_reducible intro h_|trivial|simp only [go_sem,ah];omega)
  all_goals exact az.refl _
end Go.Proofs.YtmdjdekgakidhaaGreatDoor
namespace Go.Proofs.YtmdjdekgakidhaaGreatDoor
def bE (ends:List Int) (c:Int):List Int:=ends++[4*c,4*c+1,4*c+2,4*c+3]
theorem qf (ends:List Int) (c:Int):(bE ends c).length=ends.length+4:=by simp [bE]
def ndF (hs:List Int):Nat->Int->Option Int
 |0=>fun _=>none
 |k+1=>fun h=>if h=hs.getD k 0 then some (k:Int) else ndF hs k h
def eW (hs m:List Int) (x:Nat):Option Int:=ndF hs hs.length (m.getD (hs.getD x 0).toNat 0)
def aJ (hs m:List Int):Nat->List Int
 |0=>[]
 |k+1=>if (eW hs m k).isSome then aJ hs m k else aJ hs m k++[hs.getD k 0]
def jR (hs m:List Int) (x:Nat):Int:=(eW hs m x).getD (-1)
def lS (hs m:List Int) (x:Nat):Int:=if (eW hs m x).isSome then-1 else (aJ hs m x).length
def cQ (f:Nat->Int) (W k:Nat):List Int:=(List.range W).map fun x=>if x<k then f x else 0
theorem Ah (f:Nat->Int) (W k:Nat):(cQ f W k).length=W:=by simp [cQ]
theorem RK (f:Nat->Int) (W:Nat):cQ f W 0=List.replicate W 0:=by
 apply List.ext_getElem?;intro i;by_cases h:i<W<;>simp [cQ,h]
theorem OJ (f:Nat->Int) (W k:Nat) (h:k<W):(cQ f W k).set k (f k)=cQ f W (k+1):=by
 apply List.ext_getElem?;intro i;rw [List.getElem?_set,Ah];by_cases e:k=i
 ·subst e;simp [cQ,h]
 ·rw [if_neg e];by_cases hi:i<W
  ·simp only [cQ,List.getElem?_map,List.getElem?_range hi,Option.map_some];by_cases h2:i<k
   ·rw [if_pos h2,if_pos (by omega)]
   ·rw [if_neg h2,if_neg (by omega)]
  ·simp [cQ,hi]
theorem OI (f:Nat->Int) (W x:Nat) (h:x<W):(cQ f W W).getD x 0=f x:=by
 simp [cQ,zzB,h]
theorem G9 (hs m:List Int): ∀k,(aJ hs m k).length<=k
 |0=>zzA _
 |k+1=>by
  have:=G9 hs m k
  simp only [aJ]
  split
  ·omega
  ·simp;omega
open Go Go.RowKit
set_option maxRecDepth 100000
set_option maxHeartbeats 8000000
def nv:List (List Nat):=[[20,21,22,23,24,25,8],[19,23,24,25,8],[19,23,24,25,8],[19,23,24,25,8],[19,20,21,22,8],[19,20,21,22,8],[19,20,21,22,8],[8],[19,20,21,22,23,24,25,26],[]]
def nt:List (List Nat):=[[],[0],[0],[0],[0,1,2,3],[0,1,2,3],[0,1,2,3],[],[0,1,2,3,4,5,6,7],[]]
def ns:List (List Nat):=[[68,69,70,71],[68,69,70,71],[66,67,69,70,71],[66,67,68,71,72],[66,67,68,71,72],[66,67,68,69,70,72],[69,70,71],[69,70,71],[],[]]
def Dk:Tr:=trP [0,1,4] (.node [(2, .node [(3, .node [(5, .node [(6, .node [(7,trD [8,9]),(8,trD [7,9])]),(8,trD [6,7,9])]),(8,trD [5,6,7,9])]),(5, .node [(3, .node [(6, .node [(7,trD [8,9]),(8,trD [7,9])]),(8,trD [6,7,9])]),(6, .node [(3, .node [(7,trD [8,9]),(8,trD [7,9])]),(8,trD [3,7,9])]),(8, .node [(3,trD [6,7,9]),(6,trD [3,7,9])])]),(8, .node [(3,trD [5,6,7,9]),(5, .node [(3,trD [6,7,9]),(6,trD [3,7,9])])])]),(5, .node [(2, .node [(3, .node [(6, .node [(7,trD [8,9]),(8,trD [7,9])]),(8,trD [6,7,9])]),(6, .node [(3, .node [(7,trD [8,9]),(8,trD [7,9])]),(8,trD [3,7,9])]),(8, .node [(3,trD [6,7,9]),(6,trD [3,7,9])])]),(6, .node [(2, .node [(3, .node [(7,trD [8,9]),(8,trD [7,9])]),(8,trD [3,7,9])]),(8,trD [2,3,7,9])]),(8, .node [(2, .node [(3,trD [6,7,9]),(6,trD [3,7,9])]),(6,trD [2,3,7,9])])]),(8, .node [(2, .node [(3,trD [5,6,7,9]),(5, .node [(3,trD [6,7,9]),(6,trD [3,7,9])])]),(5, .node [(2, .node [(3,trD [6,7,9]),(6,trD [3,7,9])]),(6,trD [2,3,7,9])])])])
def Dj:Tr:=trP [2,5] (.node [(0, .node [(1, .node [(3, .node [(4,trD [6,7,8,9]),(6, .node [(4,trD [7,8,9]),(7,trD [4,8,9])])]),(6, .node [(3, .node [(4,trD [7,8,9]),(7,trD [4,8,9])]),(7,trD [3,4,8,9])])]),(3, .node [(1, .node [(4,trD [6,7,8,9]),(6, .node [(4,trD [7,8,9]),(7,trD [4,8,9])])]),(4,trD [1,6,7,8,9])])]),(3, .node [(0, .node [(1, .node [(4,trD [6,7,8,9]),(6, .node [(4,trD [7,8,9]),(7,trD [4,8,9])])]),(4,trD [1,6,7,8,9])]),(4,trD [0,1,6,7,8,9])])])
theorem aj.cut {P:Program} {N:Nat} {ops:Array Oper} {id:Nat} {fr:Fr} {H:Hp} {y:Code} {Q:Exit->Fr->Hp->Prop} (fr1:Fr) (H1:Hp) (h1:aj P N id ops fr H fun e fr' H'=>e= .normal/\Wk fr' H' fr1 H1) (h2:iX P N y fr1 H1 Q):aj P N id ops fr H (yjt Q fun fr' H'=>iX P N y fr' H' Q):=
 ⟨fun B w0 Mx w ρ a hs=>wp_mono (h1.out B w0 Mx w ρ a hs) (by
  rintro e a' w' ⟨ρ',fr',H',⟨rfl,hw⟩,bo⟩;obtain ⟨ρ2,gC⟩:=hw _ _ _ _ _ _ _ bo;exact ⟨ρ2,fr1,H1,h2,gC⟩)⟩
theorem IQ (s m:List Int) (L:Int) (ends:List Int) (c:Nat) (hs:s.length<=1000) (hm:iN m s.length) (hc:c<s.length) (hel:ends.length<=90) (Th: ∀i,i<ends.length->0<=ends.getD i 0/\ends.getD i 0<4*s.length):
  Fn Tryz.prog 110 [dgA s m L,roI ends,I c] (.agg [I ends.length,roI (cQ (jR (bE ends c) m) (ends.length+4) (ends.length+4)),roI (cQ (lS (bE ends c) m) (ends.length+4) (ends.length+4)),roI (aJ (bE ends c) m (ends.length+4))]):=by
 have fv:=hm.1;have B7:=qf ends c;have mS: ∀x,x<ends.length+4->0<=(bE ends c).getD x 0/\(bE ends c).getD x 0<m.length:=fun x hx=>by
  unfold bE;by_cases h1:x<ends.length
  ·have:=Th x h1
   simp only [zzB,List.getElem?_append_left h1] at this⊢;omega
  ·simp only [zzB,List.getElem?_append_right (Nat.le_of_not_lt h1)]
   have:x-ends.length=0\/x-ends.length=1\/x-ends.length=2\/x-ends.length=3:=by omega
   rcases this with e|e|e|e<;>rw [e]<;>simp<;>omega
 have SP:List.replicate 0 0++ends++[4*(c:Int),4*c+1,4*c+2,4*c+3]=bE ends c:=by simp [bE]
 have SO:ends++[4*(c:Int),4*c+1,4*c+2,4*c+3]=bE ends c:=rfl;generalize bE ends c=hv at*;obtain ⟨W,hW⟩: ∃W,ends.length+4=W:=⟨_,rfl⟩;have e0:((ends.length:Int)+4).toNat=W:=by omega
 rw [hW] at B7 mS⊢;have Me:W<=94:=by omega
 refine Fn.ai [.cell 6 140] Tryz.func110 rfl rfl (by decide) (by simp [Tryz.ntmps110]) ?_;rw [Tryz.ntmps110]
 repeat' (first|omega|(first|apply ag|(refine aj.intro (id:=2) nv nt (by decide+kernel) mixed ?_)|(refine aj.intro (id:=13) ns [[],[],[0,1],[0,1,2],[0,1,2],[0,1,2,3,4],[3,4,5],[3,4,5],[],[]] (by decide+kernel) mixed ?_)|skip);simp only [go_sem,sevalprocAttr,zzC,e0,hW,SP,SO,↓reduceIte,reduceCtorEq,nv,nt,ns]|apply ae<;>(intro h_;(try simp only [h_]);revert h_)|apply And.intro|with_reducible intro h_|trivial|simp only [go_sem,ah];omega)
 refine dS.makeMap (n:=(ends.length:Int)+4) (kt:=3) (et:=3) rfl rfl (by simp only [go_sem,sevalprocAttr]) rfl ?_
 repeat' (first|omega|(first|apply ag|(refine aj.intro (id:=2) nv nt (by decide+kernel) mixed ?_)|(refine aj.intro (id:=13) ns [[],[],[0,1],[0,1,2],[0,1,2],[0,1,2,3,4],[3,4,5],[3,4,5],[],[]] (by decide+kernel) mixed ?_)|skip);simp only [go_sem,sevalprocAttr,zzC,e0,hW,SP,SO,↓reduceIte,reduceCtorEq,nv,nt,ns]|apply ae<;>(intro h_;(try simp only [h_]);revert h_)|apply And.intro|with_reducible intro h_|trivial|simp only [go_sem,ah];omega)
 refine aR.intro (fun n fr H=> ∃k:Nat,k<=W/\n=W-k/\fr=[(50,I k),(49,I W),(48, .sl 1 11 0 W),(10, .mp 13),(9, .sl 1 11 0 W),(8, .ptr 10 0),(6, .ptr 1 0),(3, .ptr 0 0)]/\H=[(13, .fmap 168 (.ints (ndF hv k))),(11, .cells 3 (.ints hv)),(10, .cells 140 (.lst [I ends.length, .sl 1 5 0 W, .sl 1 8 0 W, .nils])),(8, .cells 3 (.ints (List.replicate W 0))),(5, .cells 3 (.ints (List.replicate W 0))),(1, .cells 140 (.lst [I 0, .nils, .nils, .nils])),(0, .cells 24 (.lst [roI s,roI m,I L]))]) ?_ ?_
 ·refine ⟨_,_,_,?_,0,by omega,rfl,rfl,rfl⟩;refine Wk.sub ?_ ?_<;>(simp only [go_sem,sevalprocAttr,ndF])
 rintro n fr H ⟨k,hk,rfl,rfl,rfl⟩;by_cases y5:k<W
 ·have bk:decide ((k:Int)<W)=true:=by simp;omega
  have fQ:updI (ndF hv k) (hv.getD k 0) k=ndF hv (k+1):=rfl
  repeat' (first|omega|(try apply ag);simp only [go_sem,sevalprocAttr,bk,fQ,B7]|apply ae<;>(intro h_;(try simp only [h_]);revert h_)|apply And.intro|with_reducible intro h_|trivial|simp only [go_sem,ah];omega)
  refine ⟨_,_,_,?_,?_,⟨k+1,by omega,rfl,rfl,rfl⟩⟩
  ·omega
  ·refine Wk.sub ?_ ?_<;>(simp only [go_sem,sevalprocAttr,fQ])
 obtain rfl:k=W:=by omega
 have bk:decide ((k:Int)<k)=false:=by simp
 have LM: ∀x,eW hv m x=ndF hv k (m.getD (hv.getD x 0).toNat 0):=fun x=>by unfold eW;rw [B7]
 repeat' (first|omega|(try apply ag);simp only [go_sem,sevalprocAttr,bk]|apply ae<;>(intro h_;(try simp only [h_]);revert h_)|apply And.intro|with_reducible intro h_|trivial|simp only [go_sem,ah];omega)
 refine aR.intro (fun n fr H=> ∃j:Nat,j<=k/\n=k-j/\fr=[(61,I j),(60,I k),(59, .sl 1 11 0 k),(10, .mp 13),(8, .ptr 10 0),(6, .ptr 1 0),(3, .ptr 0 0)]/\((aJ hv m j=[]/\H=[(13, .fmap 168 (.ints (ndF hv k))),(11, .cells 3 (.ints hv)),(10, .cells 140 (.lst [I ends.length, .sl 1 5 0 k, .sl 1 8 0 k, .nils])),(8, .cells 3 (.ints (cQ (lS hv m) k j))),(5, .cells 3 (.ints (cQ (jR hv m) k j))),(1, .cells 140 (.lst [I 0, .nils, .nils, .nils])),(0, .cells 24 (.lst [roI s,roI m,I L]))])\/
  H=[(15, .cells 3 (.ints (aJ hv m j))),(13, .fmap 168 (.ints (ndF hv k))),(11, .cells 3 (.ints hv)),(10, .cells 140 (.lst [I ends.length, .sl 1 5 0 k, .sl 1 8 0 k, .sl 1 15 0 (aJ hv m j).length])),(8, .cells 3 (.ints (cQ (lS hv m) k j))),(5, .cells 3 (.ints (cQ (jR hv m) k j))),(1, .cells 140 (.lst [I 0, .nils, .nils, .nils])),(0, .cells 24 (.lst [roI s,roI m,I L]))])) ?_ ?_
 ·refine ⟨_,_,_,?_,0,by omega,rfl,rfl, .inl ⟨rfl,rfl⟩⟩;rw [RK,RK];refine Wk.sub ?_ ?_<;>(simp only [go_sem,sevalprocAttr,ndF])
 rintro n fr H ⟨j,hj,rfl,rfl,cC⟩;have l1:=Ah (lS hv m) k j;have l2:=Ah (jR hv m) k j;have l3:=G9 hv m j;by_cases n7:j<k
 ·have bj:decide ((j:Int)<k)=true:=by simp;omega
  have r1:=mS j n7;have s1:=OJ (lS hv m) k j n7;have s2:=OJ (jR hv m) k j n7;have nF:=LM j;have l5:=hm.2 (hv.getD j 0).toNat (by omega);have d1:(cQ (jR hv m) k j).length=k:=l2;rcases cC with ⟨bx,rfl⟩|rfl
  ·repeat' (first|omega|(try apply ag);simp only [go_sem,sevalprocAttr,bj]|apply ae<;>(intro h_;(try simp only [h_]);revert h_)|apply And.intro|with_reducible intro h_|trivial|simp only [go_sem,ah];omega)
   refine aj.cut [(14,I (hv.getD j 0)),(13,I j),(61,I j),(60,I k),(59, .sl 1 11 0 k),(10, .mp 13),(8, .ptr 10 0),(6, .ptr 1 0),(3, .ptr 0 0)] [(13, .fmap 168 (.ints (ndF hv k))),(11, .cells 3 (.ints hv)),(10, .cells 140 (.lst [I ends.length, .sl 1 5 0 k, .sl 1 8 0 k, .nils])),(8, .cells 3 (.ints ((cQ (lS hv m) k j).set j (-1)))),(5, .cells 3 (.ints ((cQ (jR hv m) k j).set j (-1)))),(1, .cells 140 (.lst [I 0, .nils, .nils, .nils])),(0, .cells 24 (.lst [roI s,roI m,I L]))] ?_ ?_
   ·repeat' (first|omega|(first|apply ag|(refine aj.aq (id:=2) (Dk) (by decide+kernel) mixed ?_)|(refine aj.intro (id:=2) nv nt (by decide+kernel) mixed ?_)|(refine aj.aq (id:=13) (Dj) (by decide+kernel) mixed ?_)|(refine aj.intro (id:=13) ns [[],[],[0,1],[0,1,2],[0,1,2],[0,1,2,3,4],[3,4,5],[3,4,5],[],[]] (by decide+kernel) mixed ?_)|skip);simp only [go_sem,sevalprocAttr,zzL,zzC,↓reduceIte,reduceCtorEq,nv,nt,ns,Dk,Dj]|apply ae<;>(intro h_;(try simp only [h_]);revert h_)|apply And.intro|with_reducible intro h_|trivial|simp only [go_sem,ah];omega)
    all_goals (refine Wk.sub ?_ ?_<;>(simp only [go_sem,sevalprocAttr,l1]))
   cases hq:ndF hv k (m.getD (hv.getD j 0).toNat 0) with
   |some y=>
    rw [hq] at nF;have i1:lS hv m j= -1:=by unfold lS;rw [nF];rfl
    have i2:jR hv m j=y:=by unfold jR;rw [nF];rfl
    have i3:aJ hv m (j+1)=aJ hv m j:=by simp only [aJ];rw [nF];rfl
    rw [i1] at s1;rw [i2] at s2
    repeat' (first|omega|(first|apply ag|(refine aj.intro (id:=2) nv nt (by decide+kernel) mixed ?_)|(refine aj.intro (id:=13) ns [[],[],[0,1],[0,1,2],[0,1,2],[0,1,2,3,4],[3,4,5],[3,4,5],[],[]] (by decide+kernel) mixed ?_)|skip);simp only [go_sem,sevalprocAttr,bj,hq,Option.isSome_some,Option.getD_some,List.set_set,zzL,zzC,s1,s2,↓reduceIte,reduceCtorEq,nv,nt,ns]|apply ae<;>(intro h_;(try simp only [h_]);revert h_)|apply And.intro|with_reducible intro h_|trivial|simp only [go_sem,ah];omega)
    refine ⟨_,_,_,?_,?_,j+1,by omega,rfl,rfl, .inl ⟨by rw [i3];exact bx,rfl⟩⟩
    ·omega
    ·refine Wk.sub ?_ ?_<;>(simp only [go_sem,sevalprocAttr,hW])
   |none=>
    rw [hq] at nF;have i1:lS hv m j=(aJ hv m j).length:=by unfold lS;rw [nF];rfl
    have i2:jR hv m j= -1:=by unfold jR;rw [nF];rfl
    have i3:aJ hv m (j+1)=aJ hv m j++[hv.getD j 0]:=by simp only [aJ];rw [nF];rfl
    rw [bx,List.nil_append] at i3;rw [i1,bx] at s1;rw [i2] at s2;have yN:(cQ (lS hv m) k j).set j 0=cQ (lS hv m) k (j+1):=s1
    repeat' (first|omega|(first|apply ag|(refine aj.intro (id:=2) nv nt (by decide+kernel) mixed ?_)|(refine aj.intro (id:=13) ns [[],[],[0,1],[0,1,2],[0,1,2],[0,1,2,3,4],[3,4,5],[3,4,5],[],[]] (by decide+kernel) mixed ?_)|skip);simp only [go_sem,sevalprocAttr,bj,hq,Option.isSome_none,Option.getD_none,List.set_set,zzL,zzC,yN,s2,↓reduceIte,reduceCtorEq,nv,nt,ns]|apply ae<;>(intro h_;(try simp only [h_]);revert h_)|apply And.intro|with_reducible intro h_|trivial|simp only [go_sem,ah];omega)
    refine ⟨_,_,_,?_,?_,j+1,by omega,rfl,rfl, .inr rfl⟩
    ·omega
    ·rw [i3];refine Wk.sub ?_ ?_<;>(simp only [go_sem,sevalprocAttr,hW])
  ·repeat' (first|omega|(try apply ag);simp only [go_sem,sevalprocAttr,bj]|apply ae<;>(intro h_;(try simp only [h_]);revert h_)|apply And.intro|with_reducible intro h_|trivial|simp only [go_sem,ah];omega)
   refine aj.cut [(14,I (hv.getD j 0)),(13,I j),(61,I j),(60,I k),(59, .sl 1 11 0 k),(10, .mp 13),(8, .ptr 10 0),(6, .ptr 1 0),(3, .ptr 0 0)] [(15, .cells 3 (.ints (aJ hv m j))),(13, .fmap 168 (.ints (ndF hv k))),(11, .cells 3 (.ints hv)),(10, .cells 140 (.lst [I ends.length, .sl 1 5 0 k, .sl 1 8 0 k, .sl 1 15 0 (aJ hv m j).length])),(8, .cells 3 (.ints ((cQ (lS hv m) k j).set j (-1)))),(5, .cells 3 (.ints ((cQ (jR hv m) k j).set j (-1)))),(1, .cells 140 (.lst [I 0, .nils, .nils, .nils])),(0, .cells 24 (.lst [roI s,roI m,I L]))] ?_ ?_
   ·repeat' (first|omega|(first|apply ag|(refine aj.aq (id:=2) (Dk) (by decide+kernel) mixed ?_)|(refine aj.intro (id:=2) nv nt (by decide+kernel) mixed ?_)|(refine aj.aq (id:=13) (Dj) (by decide+kernel) mixed ?_)|(refine aj.intro (id:=13) ns [[],[],[0,1],[0,1,2],[0,1,2],[0,1,2,3,4],[3,4,5],[3,4,5],[],[]] (by decide+kernel) mixed ?_)|skip);simp only [go_sem,sevalprocAttr,zzL,zzC,↓reduceIte,reduceCtorEq,nv,nt,ns,Dk,Dj]|apply ae<;>(intro h_;(try simp only [h_]);revert h_)|apply And.intro|with_reducible intro h_|trivial|simp only [go_sem,ah];omega)
    all_goals (refine Wk.sub ?_ ?_<;>(simp only [go_sem,sevalprocAttr,l1]))
   cases hq:ndF hv k (m.getD (hv.getD j 0).toNat 0) with
   |some y=>
    rw [hq] at nF;have i1:lS hv m j= -1:=by unfold lS;rw [nF];rfl
    have i2:jR hv m j=y:=by unfold jR;rw [nF];rfl
    have i3:aJ hv m (j+1)=aJ hv m j:=by simp only [aJ];rw [nF];rfl
    rw [i1] at s1;rw [i2] at s2
    repeat' (first|omega|(first|apply ag|(refine aj.intro (id:=2) nv nt (by decide+kernel) mixed ?_)|(refine aj.intro (id:=13) ns [[],[],[0,1],[0,1,2],[0,1,2],[0,1,2,3,4],[3,4,5],[3,4,5],[],[]] (by decide+kernel) mixed ?_)|skip);simp only [go_sem,sevalprocAttr,bj,hq,Option.isSome_some,Option.getD_some,List.set_set,zzL,zzC,s1,s2,↓reduceIte,reduceCtorEq,nv,nt,ns]|apply ae<;>(intro h_;(try simp only [h_]);revert h_)|apply And.intro|with_reducible intro h_|trivial|simp only [go_sem,ah];omega)
    refine ⟨_,_,_,?_,?_,j+1,by omega,rfl,rfl, .inr rfl⟩
    ·omega
    ·rw [i3];refine Wk.sub ?_ ?_<;>(simp only [go_sem,sevalprocAttr,hW])
   |none=>
    rw [hq] at nF;have i1:lS hv m j=(aJ hv m j).length:=by unfold lS;rw [nF];rfl
    have i2:jR hv m j= -1:=by unfold jR;rw [nF];rfl
    have i3:aJ hv m (j+1)=aJ hv m j++[hv.getD j 0]:=by simp only [aJ];rw [nF];rfl
    rw [i1] at s1;rw [i2] at s2
    repeat' (first|omega|(first|apply ag|(refine aj.intro (id:=2) nv nt (by decide+kernel) mixed ?_)|(refine aj.intro (id:=13) ns [[],[],[0,1],[0,1,2],[0,1,2],[0,1,2,3,4],[3,4,5],[3,4,5],[],[]] (by decide+kernel) mixed ?_)|skip);simp only [go_sem,sevalprocAttr,bj,hq,Option.isSome_none,Option.getD_none,List.set_set,zzL,zzC,s1,s2,↓reduceIte,reduceCtorEq,nv,nt,ns]|apply ae<;>(intro h_;(try simp only [h_]);revert h_)|apply And.intro|with_reducible intro h_|trivial|simp only [go_sem,ah];omega)
    refine ⟨_,_,_,?_,?_,j+1,by omega,rfl,rfl, .inr rfl⟩
    ·omega
    ·rw [i3,zzF];refine Wk.sub ?_ ?_<;>(simp only [go_sem,sevalprocAttr,hW])
 ·obtain rfl:j=k:=by omega
  have bj:decide ((j:Int)<j)=false:=by simp
  rcases cC with ⟨bx,rfl⟩|rfl
  ·rw [bx]
   repeat' (first|omega|(try apply ag);simp only [go_sem,sevalprocAttr,bj]|apply ae<;>(intro h_;(try simp only [h_]);revert h_)|apply And.intro|with_reducible intro h_|trivial|simp only [go_sem,ah];omega)
   rw [List.take_of_length_le (Nat.le_of_eq l2),List.take_of_length_le (Nat.le_of_eq l1),l1,l2];exact az.iA (.cons (az.refl _) (.cons (az.refl _) (.cons (az.refl _) (.cons (az.nils (by decide) rfl) .nil))))
  ·repeat' (first|omega|(try apply ag);simp only [go_sem,sevalprocAttr,bj]|apply ae<;>(intro h_;(try simp only [h_]);revert h_)|apply And.intro|with_reducible intro h_|trivial|simp only [go_sem,ah];omega)
   rw [List.take_of_length_le (Nat.le_of_eq l2),List.take_of_length_le (Nat.le_of_eq l1),List.take_length,l1,l2];exact az.refl _
end Go.Proofs.YtmdjdekgakidhaaGreatDoor
