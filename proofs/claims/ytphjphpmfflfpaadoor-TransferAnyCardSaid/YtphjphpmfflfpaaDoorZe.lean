/- Layer 17: follow: the new pairing, and the circles that are closed. -/
import Derived.Test.YtphjphpmfflfpaaDoorZb
import Derived.Test.YtphjphpmfflfpaaDoorZd
import Derived.Test.YtphjphpmfflfpaaDoorGc
set_option linter.unusedSimpArgs false
set_option linter.unusedVariables false
namespace Go.Proofs.YtphjphpmfflfpaaDoor
open Go Go.RowKit
set_option maxRecDepth 100000
set_option maxHeartbeats 8000000
abbrev arcF (cnt:Nat) (T:List Nat) (J:List Int) (x:Nat):Nat:=(arcV cnt T J x).toNat
abbrev gluF (glue:List Int) (x:Nat):Int:=glue.getD x 0
theorem y5n (n:Nat):(List.replicate n [AV.int .u8 0]).flatten=(List.replicate n (0:Int)).map (AV.int .u8):=by
 induction n with
 |zero=>rfl
 |succ n ih=>rw [List.replicate_succ,List.flatten_cons,ih,List.replicate_succ];rfl
theorem yyf {ts:List Int} {x:AV} (h:x∈ts.map (AV.int .u8)): ∃n,x= .int .u8 n:=by
 obtain ⟨n,_,rfl⟩:=List.mem_map.1 h;exact ⟨n,rfl⟩
theorem y22 (ts:List Int):(ts.map (AV.int .u8)).all p1=true:=List.all_eq_true.2 fun x hx=>by obtain ⟨n,rfl⟩:=yyf hx;rfl
theorem yd5 (H:Hp) (ts:List Int):(ts.map (AV.int .u8)).all (s3 H)=true:=List.all_eq_true.2 fun x hx=>by obtain ⟨n,rfl⟩:=yyf hx;rfl
theorem y7i (H:Hp) (n:Nat) (ts:List Int):(ts.map (AV.int .u8)).map (frzV H (n+1))=ts.map (AV.int .u8):=yx5 (y22 ts) H n
theorem y5o (H:Hp) (n:Nat) (ts:List Int):(∀x∈ts.map (AV.int .u8),frzP H (n+1) x)=True:=yty (y22 ts) H n
theorem yyg (ts:List Int) (i:Nat) (v:Int):(ts.map (AV.int .u8)).set i (.int .u8 v)=(ts.set i v).map (AV.int .u8):=List.map_set.symm
structure y23 (cnt:Nat) (glue index:List Int) (E:Nat) (T:List Nat) (J:List Int):Prop where
 gl:glue.length=cnt+4
 il:index.length=cnt+4
 hT:T.length=cnt
 hb: ∀i∈T,i<100
 hJ:J.length=4
 hJr: ∀i,0<=J.getD i 0/\J.getD i 0<=3
 hc:cnt<=90
 hE:E<=99
 gr: ∀x,x<cnt+4-> -1<=glue.getD x 0/\glue.getD x 0<cnt+4
 ix: ∀x,x<cnt+4->(0<=glue.getD x 0->index.getD x 0= -1)/\(glue.getD x 0<0->0<=index.getD x 0/\index.getD x 0<E)
 ar: ∀x,x<cnt+4->0<=arcV cnt T J x/\arcV cnt T J x<cnt+4
 hP: ∀k,k<cnt+4->glue.getD k 0<0-> ∃ys e,Pth (arcF cnt T J) (gluF glue) k ys e/\ys.length<=cnt+4
 hC: ∀k,k<cnt+4->0<=glue.getD k 0->(cirN (cnt+4) (arcF cnt T J) (gluF glue) (endN (cnt+4) (arcF cnt T J) (gluF glue) (cnt+4)) k).1.getD k false=false-> ∃zs,Cyc (arcF cnt T J) (gluF glue) (cirN (cnt+4) (arcF cnt T J) (gluF glue) (endN (cnt+4) (arcF cnt T J) (gluF glue) (cnt+4)) k).1 k zs/\zs.length<=cnt+4
theorem Pth.endW {arc:Nat->Nat} {glue:Nat->Int} {W:Nat} (har: ∀x,x<W->arc x<W) (hgr: ∀x,x<W->0<=glue x->(glue x).toNat<W) {u e:Nat} {ys:List Nat} (h:Pth arc glue u ys e):u<W->e<W/\glue e<0:=by
 induction h with
 |nil h=>exact fun hu=>⟨har _ hu,h⟩
 |cons h k ih=>exact fun hu=>ih (hgr _ (har _ hu) h)
theorem yyh (cnt:Nat) (glue index ends:List Int) (T:List Nat) (J:List Int) (h:y23 cnt glue index ends.length T J):
  Fn Tryd.prog 57 [.agg [I cnt,roI glue,roI index,roI ends], .str (pS T), .agg (J.map (AV.int .i64))]
   (.tup [.str (strB (txN (arcF cnt T J) (gluF glue) (fun x=>index.getD x 0) (cnt+4) ends.length (cnt+4))),I (cirN (cnt+4) (arcF cnt T J) (gluF glue) (endN (cnt+4) (arcF cnt T J) (gluF glue) (cnt+4)) (cnt+4)).2]):=by
 obtain ⟨j0,j1,j2,j3,rfl⟩: ∃j0 j1 j2 j3,J=[j0,j1,j2,j3]:=by
  have:=h.hJ
  match J,this with
  |[a,b,c,d],_=>exact ⟨a,b,c,d,rfl⟩
 have hA:=fun x (hx:x<cnt+4)=>y7g cnt x glue index ends T [j0,j1,j2,j3] h.hT h.hb h.hJ h.hJr hx (by have:=h.hc;omega)
 have hAn: ∀x,x<cnt+4->arcV cnt T [j0,j1,j2,j3] x=(arcF cnt T [j0,j1,j2,j3] x:Int)/\arcF cnt T [j0,j1,j2,j3] x<cnt+4:=fun x hx=>by have:=h.ar x hx;unfold arcF;exact ⟨by omega,by omega⟩
 obtain ⟨hgl,hil,_,_,_,_,hc90,hE99,hgr,hix,_,hP,hC⟩:=h
 have hA2: ∀x,x<cnt+4->Fn Tryd.prog 69 [I x, .rp (.lst [I cnt,roI glue,roI index,roI ends]) 0, .rp (.lst [.str (pS T)]) 0, .rp (.lst [I j0,I j1,I j2,I j3]) 0] (I (arcF cnt T [j0,j1,j2,j3] x:Nat)):=fun x hx=>by
  have:=hA x hx
  rw [(hAn x hx).1] at this
  exact this
 have hAl:=fun x hx=>(hAn x hx).2
 clear hA hAn
 generalize arcF cnt T [j0,j1,j2,j3]=arc at*
 have hW94:cnt+4<=94:=by omega
 generalize hWd:cnt+4=W at*
 obtain ⟨S,hS⟩: ∃S,S=Cs.lst [I cnt,roI glue,roI index,roI ends]:=⟨_,rfl⟩
 have hgW: ∀x,x<W->0<=gluF glue x->(gluF glue x).toNat<W/\((gluF glue x).toNat:Int)=gluF glue x:=fun x hx h0=>by
  have:=hgr x hx
  unfold gluF at*
  exact ⟨by omega,by omega⟩
 refine Fn.introL [.tmp 6, .tmp 7] Tryd.func57 rfl rfl (by decide) (by simp [Tryd.ntmps57]) ?_;rw [Tryd.ntmps57]
 repeat' (first|omega|(try apply yaa);simp only [go_sem,sevalprocAttr,y5n,Int.toNat_natCast]|apply yad<;>(intro h_;(try simp only [h_]);revert h_)|apply yac|apply yab|apply gspI|apply And.intro|with_reducible intro h_|trivial|simp only [go_sem,la2];omega)
 refine yai.intro (fun n fr H=> ∃k:Nat,k<=W/\n=W-k/\fr=[(31,I k),(30,I index.length),(29,roI index),(10, .sl 1 4 0 ends.length),(9, .sl 1 3 0 glue.length),(8, .fn 69 [.rp (.lst [I cnt,roI glue,roI index,roI ends]) 0, .rp (.lst [.str (pS T)]) 0, .rp (.lst [I j0,I j1,I j2,I j3]) 0]),(3, .rp (.lst [I cnt,roI glue,roI index,roI ends]) 0)]/\H=[(4, .cells 5 (.lst ((txN arc (gluF glue) (fun x=>index.getD x 0) W ends.length k).map (AV.int .u8)))),(3, .cells 4 (.bools (endN W arc (gluF glue) k)))]) ?_ ?_
 ·refine ⟨_,_,_,?_,0,by omega,rfl,rfl,rfl⟩
  refine Wk.trans (Wk.frz [0,1,2] ?_ ?_ rfl rfl) (Wk.sub ?_ ?_)
  all_goals (simp only [go_sem,sevalprocAttr,txN,endN,hgl,Int.toNat_natCast,yd5,y7i,y5o])
 rintro n fr H ⟨k,hk,rfl,rfl,rfl⟩
 have tl:=yee arc (gluF glue) (fun x=>index.getD x 0) W ends.length k
 have sl:=yh1 W arc (gluF glue) k
 by_cases hkW:k<W
 ·have bk:decide ((k:Int)<index.length)=true:=by simp;omega
  have hixk:=hix k hkW
  by_cases hg:0<=glue.getD k 0
  ·have h1:=hixk.1 hg
   have b1:decide (index.getD k 0<0)=true:=by rw [decide_eq_true_eq];omega
   have e1:txN arc (gluF glue) (fun x=>index.getD x 0) W ends.length (k+1)=txN arc (gluF glue) (fun x=>index.getD x 0) W ends.length k:=by simp only [txN];rw [if_pos (by omega)]
   have e2:endN W arc (gluF glue) (k+1)=endN W arc (gluF glue) k:=by simp only [endN];rw [if_pos (show 0<=gluF glue k from hg)]
   repeat' (first|omega|(try apply yaa);simp only [go_sem,sevalprocAttr,bk,b1]|apply yad<;>(intro h_;(try simp only [h_]);revert h_)|apply yac|apply yab|apply gspI|apply And.intro|with_reducible intro h_|trivial|simp only [go_sem,la2];omega)
   refine ⟨_,_,_,?_,?_,⟨k+1,by omega,rfl,rfl,rfl⟩⟩
   ·omega
   ·rw [e1,e2]
    refine Wk.sub ?_ ?_<;>(simp only [go_sem,sevalprocAttr,yd5])
  ·have h1:=hixk.2 (by omega)
   have b1:decide (index.getD k 0<0)=false:=by rw [decide_eq_false_iff_not];omega
   obtain ⟨ys,e,hp,hpl⟩:=hP k hkW (by omega)
   have hrun:=yed hp (W+1) (endN W arc (gluF glue) k) (by omega)
   have hrun0:=yed hp (W+1) [] (by omega)
   obtain ⟨heW,heg⟩:=hp.endW hAl (fun x hx h0=>(hgW x hx h0).1) hkW
   have e1:txN arc (gluF glue) (fun x=>index.getD x 0) W ends.length (k+1)=(txN arc (gluF glue) (fun x=>index.getD x 0) W ends.length k).set (index.getD k 0).toNat (97+index.getD e 0):=by
    simp only [txN];rw [if_neg (by omega),hrun0]
   have e2:endN W arc (gluF glue) (k+1)=ys.foldl (setP (gluF glue)) (endN W arc (gluF glue) k):=by
    simp only [endN];rw [if_neg (show¬0<=gluF glue k from hg),hrun]
   generalize txN arc (gluF glue) (fun x=>index.getD x 0) W ends.length k=ts at*
   generalize endN W arc (gluF glue) k=sn0 at*
   have hAk:=hA2 k hkW
   repeat' (first|omega|(try apply yaa);simp only [go_sem,sevalprocAttr,bk,b1]|apply yad<;>(intro h_;(try simp only [h_]);revert h_)|apply yac|apply yab|apply gspI|apply And.intro|with_reducible intro h_|trivial|simp only [go_sem,la2];omega)
   refine ⟨yaf.fn rfl hAk ?_⟩
   repeat' (first|omega|(try apply yaa);simp only [go_sem,sevalprocAttr,bk,b1]|apply yad<;>(intro h_;(try simp only [h_]);revert h_)|apply yac|apply yab|apply gspI|apply And.intro|with_reducible intro h_|trivial|simp only [go_sem,la2];omega)
   refine yai.intro (fun n fr H=> ∃(u:Nat) (zs:List Nat) (sn:List Bool),n=zs.length/\u<W/\Pth arc (gluF glue) u zs e/\sn.length=W/\zs.foldl (setP (gluF glue)) sn=ys.foldl (setP (gluF glue)) sn0/\fr=[(13,I (arc u:Nat)),(12,I (index.getD k 0)),(31,I k),(30,I index.length),(29,roI index),(10, .sl 1 4 0 ends.length),(9, .sl 1 3 0 glue.length),(8, .fn 69 [.rp (.lst [I cnt,roI glue,roI index,roI ends]) 0, .rp (.lst [.str (pS T)]) 0, .rp (.lst [I j0,I j1,I j2,I j3]) 0]),(3, .rp (.lst [I cnt,roI glue,roI index,roI ends]) 0)]/\H=[(4, .cells 5 (.lst (ts.map (AV.int .u8)))),(3, .cells 4 (.bools sn))]) ?_ ?_
   ·refine ⟨_,_,_,?_,k,ys,sn0,rfl,hkW,hp,sl,rfl,rfl,rfl⟩
    refine Wk.sub ?_ ?_<;>(simp only [go_sem,sevalprocAttr,yd5])
   rintro n fr H ⟨u,zs,sn,rfl,hu,hpz,hsl,hfold,rfl,rfl⟩
   have hau:=hAl u hu
   cases hpz with
   |nil hn=>
    have b2:decide (0<=glue.getD (arc u) 0)=false:=by have:gluF glue (arc u)=glue.getD (arc u) 0:=rfl;rw [decide_eq_false_iff_not];omega
    have hie:=(hix (arc u) hau).2 hn
    have w1:IntKind.u8.wrap (97+index.getD (arc u) 0)=97+index.getD (arc u) 0:=IntWalk.u8_in _ (by omega)
    simp only [List.foldl_nil] at hfold
    rw [←hfold] at e2
    repeat' (first|omega|(try apply yaa);simp only [go_sem,sevalprocAttr,b2,w1,yyg,List.length_map,Int.toNat_natCast]|apply yad<;>(intro h_;(try simp only [h_]);revert h_)|apply yac|apply yab|apply gspI|apply And.intro|with_reducible intro h_|trivial|simp only [go_sem,la2];omega)
    refine ⟨_,_,_,?_,?_,⟨k+1,by omega,rfl,rfl,rfl⟩⟩
    ·omega
    ·rw [e1,e2]
     refine Wk.sub ?_ ?_<;>(simp only [go_sem,sevalprocAttr,yd5,yyg])
   | @cons _ _ ys' hc hk2=>
     obtain ⟨zW,ze⟩:=hgW (arc u) hau hc
     have b2:decide (0<=glue.getD (arc u) 0)=true:=by have:gluF glue (arc u)=glue.getD (arc u) 0:=rfl;rw [decide_eq_true_eq];omega
     have hz:glue.getD (arc u) 0=((gluF glue (arc u)).toNat:Int):=ze.symm
     have hAz:=hA2 _ zW
     rw [List.foldl_cons] at hfold
     have hsp:setP (gluF glue) sn (arc u)=(sn.set (arc u) true).set (gluF glue (arc u)).toNat true:=rfl
     generalize (gluF glue (arc u)).toNat=z at*
     repeat' (first|omega|(try apply yaa);simp only [go_sem,sevalprocAttr,b2,hz,List.length_set,Int.toNat_natCast]|apply yad<;>(intro h_;(try simp only [h_]);revert h_)|apply yac|apply yab|apply gspI|apply And.intro|with_reducible intro h_|trivial|simp only [go_sem,la2];omega)
     refine ⟨yaf.fn rfl hAz ?_⟩
     repeat' (first|omega|(try apply yaa);simp only [go_sem,sevalprocAttr,b2,hz]|apply yad<;>(intro h_;(try simp only [h_]);revert h_)|apply yac|apply yab|apply gspI|apply And.intro|with_reducible intro h_|trivial|simp only [go_sem,la2];omega)
     refine ⟨_,_,_,?_,?_,z,ys',_,rfl,zW,hk2,?_,hfold,rfl,rfl⟩
     ·simp
     ·rw [hsp]
      refine Wk.sub ?_ ?_<;>(simp only [go_sem,sevalprocAttr,yd5])
     ·rw [yhy];exact hsl
 obtain rfl:k=W:=by omega
 have bk:decide ((k:Int)<index.length)=false:=by simp;omega
 generalize hts:txN arc (gluF glue) (fun x=>index.getD x 0) k ends.length k=ts at*
 have hcl:=fun j=>yh2 k arc (gluF glue) (endN k arc (gluF glue) k) j
 have hcle:=fun j=>ynv k arc (gluF glue) (endN k arc (gluF glue) k) j
 have hc0:cirN k arc (gluF glue) (endN k arc (gluF glue) k) 0=(endN k arc (gluF glue) k,0):=rfl
 have hcs: ∀j,cirN k arc (gluF glue) (endN k arc (gluF glue) k) (j+1)=if gluF glue j<0\/(cirN k arc (gluF glue) (endN k arc (gluF glue) k) j).1.getD j false=true then cirN k arc (gluF glue) (endN k arc (gluF glue) k) j else (cycN arc (gluF glue) (k+1) (cirN k arc (gluF glue) (endN k arc (gluF glue) k) j).1 j,(cirN k arc (gluF glue) (endN k arc (gluF glue) k) j).2+1):=fun j=>rfl
 generalize cirN k arc (gluF glue) (endN k arc (gluF glue) k)=C at*
 generalize endN k arc (gluF glue) k=sn0 at*
 have hbi:ts.length=ends.length:=tl
 repeat' (first|omega|(try apply yaa);simp only [go_sem,sevalprocAttr,bk]|apply yad<;>(intro h_;(try simp only [h_]);revert h_)|apply yac|apply yab|apply gspI|apply And.intro|with_reducible intro h_|trivial|simp only [go_sem,la2];omega)
 refine yai.intro (fun n fr H=> ∃j:Nat,j<=k/\n=k-j/\fr=[(75,I j),(74,I glue.length),(73,roI glue),(15,I (C j).2),(10, .sl 1 4 0 ends.length),(9, .sl 1 3 0 glue.length),(8, .fn 69 [.rp (.lst [I cnt,roI glue,roI index,roI ends]) 0, .rp (.lst [.str (pS T)]) 0, .rp (.lst [I j0,I j1,I j2,I j3]) 0]),(3, .rp (.lst [I cnt,roI glue,roI index,roI ends]) 0)]/\H=[(4, .cells 5 (.lst (ts.map (AV.int .u8)))),(3, .cells 4 (.bools (C j).1))]) ?_ ?_
 ·refine ⟨_,_,_,?_,0,by omega,rfl,rfl,rfl⟩
  rw [hc0]
  refine Wk.sub ?_ ?_<;>(simp only [go_sem,sevalprocAttr,yd5])
 rintro n fr H ⟨j,hj,rfl,rfl,rfl⟩
 by_cases hjk:j<k
 ·have bj:decide ((j:Int)<glue.length)=true:=by simp;omega
  have hl:=hcl j
  have hle:=hcle j
  have hs:=hcs j
  have hCj:=hC j hjk
  generalize hCe:C j=C0 at*
  obtain ⟨sn,c⟩:=C0
  simp only at hl hle hs hCj
  by_cases hg:glue.getD j 0<0
  ·have b1:decide (glue.getD j 0<0)=true:=by rw [decide_eq_true_eq];exact hg
   rw [if_pos (.inl hg)] at hs
   repeat' (first|omega|(try apply yaa);simp only [go_sem,sevalprocAttr,bj,b1]|apply yad<;>(intro h_;(try simp only [h_]);revert h_)|apply yac|apply yab|apply gspI|apply And.intro|with_reducible intro h_|trivial|simp only [go_sem,la2];omega)
   refine ⟨_,_,_,?_,?_,⟨j+1,by omega,rfl,rfl,rfl⟩⟩
   ·omega
   ·rw [hs]
    refine Wk.sub ?_ ?_<;>(simp only [go_sem,sevalprocAttr,yd5])
  ·have b1:decide (glue.getD j 0<0)=false:=by rw [decide_eq_false_iff_not];exact hg
   cases hsj:sn.getD j false with
   |true=>
    rw [if_pos (.inr hsj)] at hs
    repeat' (first|omega|(try apply yaa);simp only [go_sem,sevalprocAttr,bj,b1,hsj]|apply yad<;>(intro h_;(try simp only [h_]);revert h_)|apply yac|apply yab|apply gspI|apply And.intro|with_reducible intro h_|trivial|simp only [go_sem,la2];omega)
    refine ⟨_,_,_,?_,?_,⟨j+1,by omega,rfl,rfl,rfl⟩⟩
    ·omega
    ·rw [hs]
     refine Wk.sub ?_ ?_<;>(simp only [go_sem,sevalprocAttr,yd5])
   |false=>
    rw [if_neg (by rw [hsj];simp;exact Int.not_lt.1 hg)] at hs
    obtain ⟨zs,hcy,hzl⟩:=hCj (Int.not_lt.1 hg) hsj
    have hcr:=yqv hcy (k+1) (by omega)
    rw [hcr] at hs
    repeat' (first|omega|(try apply yaa);simp only [go_sem,sevalprocAttr,bj,b1,hsj]|apply yad<;>(intro h_;(try simp only [h_]);revert h_)|apply yac|apply yab|apply gspI|apply And.intro|with_reducible intro h_|trivial|simp only [go_sem,la2];omega)
    refine yai.intro (fun n fr H=> ∃(z:Nat) (zs':List Nat) (s1:List Bool),n=zs'.length/\z<k/\Cyc arc (gluF glue) s1 z zs'/\s1.length=k/\zs'.foldl (setP (gluF glue)) s1=zs.foldl (setP (gluF glue)) sn/\fr=[(18,I z),(75,I j),(74,I glue.length),(73,roI glue),(15,I ((c:Int)+1)),(10, .sl 1 4 0 ends.length),(9, .sl 1 3 0 glue.length),(8, .fn 69 [.rp (.lst [I cnt,roI glue,roI index,roI ends]) 0, .rp (.lst [.str (pS T)]) 0, .rp (.lst [I j0,I j1,I j2,I j3]) 0]),(3, .rp (.lst [I cnt,roI glue,roI index,roI ends]) 0)]/\H=[(4, .cells 5 (.lst (ts.map (AV.int .u8)))),(3, .cells 4 (.bools s1))]) ?_ ?_
    ·refine ⟨_,_,_,?_,j,zs,sn,rfl,hjk,hcy,by omega,rfl,rfl,rfl⟩
     refine Wk.sub ?_ ?_<;>(simp only [go_sem,sevalprocAttr,yd5])
    rintro n fr H ⟨z,zs',s1,rfl,hz,hcz,hsl1,hfold,rfl,rfl⟩
    cases hcz with
    |stop hst=>
     simp only [List.foldl_nil] at hfold
     repeat' (first|omega|(try apply yaa);simp only [go_sem,sevalprocAttr,hst]|apply yad<;>(intro h_;(try simp only [h_]);revert h_)|apply yac|apply yab|apply gspI|apply And.intro|with_reducible intro h_|trivial|simp only [go_sem,la2];omega)
     refine ⟨_,_,_,?_,?_,⟨j+1,by omega,rfl,rfl,rfl⟩⟩
     ·omega
     ·rw [hs,hfold]
      have ec:((c+1:Nat):Int)=(c:Int)+1:=by omega
      refine Wk.sub ?_ ?_<;>(simp only [go_sem,sevalprocAttr,yd5,ec])
    | @step _ _ zs2 hst hgz hk2=>
      obtain ⟨gW,ge⟩:=hgW z hz hgz
      have hgz2:glue.getD z 0=((gluF glue z).toNat:Int):=ge.symm
      have hAz:=hA2 _ gW
      rw [List.foldl_cons] at hfold
      have hsp:setP (gluF glue) s1 z=(s1.set z true).set (gluF glue z).toNat true:=rfl
      have haz:=hAl _ gW
      generalize (gluF glue z).toNat=y at*
      repeat' (first|omega|(try apply yaa);simp only [go_sem,sevalprocAttr,hst,hgz2,List.length_set,Int.toNat_natCast]|apply yad<;>(intro h_;(try simp only [h_]);revert h_)|apply yac|apply yab|apply gspI|apply And.intro|with_reducible intro h_|trivial|simp only [go_sem,la2];omega)
      refine ⟨yaf.fn rfl hAz ?_⟩
      repeat' (first|omega|(try apply yaa);simp only [go_sem,sevalprocAttr,hst,hgz2]|apply yad<;>(intro h_;(try simp only [h_]);revert h_)|apply yac|apply yab|apply gspI|apply And.intro|with_reducible intro h_|trivial|simp only [go_sem,la2];omega)
      refine ⟨_,_,_,?_,?_,arc y,zs2,_,rfl,haz,hk2,?_,hfold,rfl,rfl⟩
      ·simp
      ·rw [hsp]
       refine Wk.sub ?_ ?_<;>(simp only [go_sem,sevalprocAttr,yd5])
      ·rw [yhy];exact hsl1
 ·obtain rfl:j=k:=by omega
  have bj:decide ((j:Int)<glue.length)=false:=by simp;omega
  have hle:=hcle j
  generalize (C j).1=snf at*
  generalize (C j).2=cf at*
  repeat' (first|omega|(try apply yaa);simp only [go_sem,sevalprocAttr,bj]|apply yad<;>(intro h_;(try simp only [h_]);revert h_)|apply yac|apply yab|apply gspI|apply And.intro|with_reducible intro h_|trivial|simp only [go_sem,la2];omega)
  refine SpL.b2s (e:=5) (ts:=ts) (t:=5) rfl rfl (by simp only [go_sem,sevalprocAttr]) (by simp only [go_sem,sevalprocAttr]) (by simp only [go_sem,sevalprocAttr]) (by rw [hbi];rfl) rfl ?_
  repeat' (first|omega|(try apply yaa);simp only [go_sem,sevalprocAttr]|apply yad<;>(intro h_;(try simp only [h_]);revert h_)|apply yac|apply yab|apply gspI|apply And.intro|with_reducible intro h_|trivial|simp only [go_sem,la2];omega)
  all_goals exact LeA.refl _
end Go.Proofs.YtphjphpmfflfpaaDoor
set_option linter.unusedSimpArgs false
set_option linter.unusedVariables false
namespace Go.Proofs.YtphjphpmfflfpaaDoor
def hvL (ends:List Int) (c:Int):List Int:=ends++[4*c,4*c+1,4*c+2,4*c+3]
theorem yb5 (ends:List Int) (c:Int):(hvL ends c).length=ends.length+4:=by simp [hvL]
def ndF (hs:List Int):Nat->Int->Option Int
 |0=>fun _=>none
 |k+1=>fun h=>if h=hs.getD k 0 then some (k:Int) else ndF hs k h
def glO (hs m:List Int) (x:Nat):Option Int:=ndF hs hs.length (m.getD (hs.getD x 0).toNat 0)
def endS (hs m:List Int):Nat->List Int
 |0=>[]
 |k+1=>if (glO hs m k).isSome then endS hs m k else endS hs m k++[hs.getD k 0]
def glS (hs m:List Int) (x:Nat):Int:=(glO hs m x).getD (-1)
def idS (hs m:List Int) (x:Nat):Int:=if (glO hs m x).isSome then-1 else (endS hs m x).length
def rowK (f:Nat->Int) (W k:Nat):List Int:=(List.range W).map fun x=>if x<k then f x else 0
theorem yf4 (f:Nat->Int) (W k:Nat):(rowK f W k).length=W:=by simp [rowK]
theorem yyi (f:Nat->Int) (W:Nat):rowK f W 0=List.replicate W 0:=by
 apply List.ext_getElem?
 intro i
 by_cases h:i<W<;>simp [rowK,h]
theorem yrd (f:Nat->Int) (W k:Nat) (h:k<W):(rowK f W k).set k (f k)=rowK f W (k+1):=by
 apply List.ext_getElem?
 intro i
 rw [List.getElem?_set,yf4]
 by_cases e:k=i
 ·subst e;simp [rowK,h]
 ·rw [if_neg e]
  by_cases hi:i<W
  ·simp only [rowK,List.getElem?_map,List.getElem?_range hi,Option.map_some]
   by_cases h2:i<k
   ·rw [if_pos h2,if_pos (by omega)]
   ·rw [if_neg h2,if_neg (by omega)]
  ·simp [rowK,hi]
theorem yre (f:Nat->Int) (W x:Nat) (h:x<W):(rowK f W W).getD x 0=f x:=by
 simp [rowK,List.getD_eq_getElem?_getD,h]
theorem ylf (hs m:List Int): ∀k,(endS hs m k).length<=k
 |0=>Nat.le_refl _
 |k+1=>by
  have:=ylf hs m k
  simp only [endS]
  split
  ·omega
  ·simp;omega
end Go.Proofs.YtphjphpmfflfpaaDoor
set_option linter.unusedSimpArgs false
set_option linter.unusedVariables false
namespace Go.Proofs.YtphjphpmfflfpaaDoor
open Go Go.RowKit
section
variable {P:Program} {α β:Type}
def ybr (P:Program) (s:Sem α):Prop:=(∃r,∀w,s.run P w= .ok r w)\/ ∀w r w1,s.run P w≠ .ok r w1
theorem ybr.pure (x:α):ybr P (Pure.pure x:Sem α):= .inl ⟨x,fun w=>by simp⟩
theorem ybr.stuck (x:String):ybr P (stuck x:Sem α):= .inr fun w r w1 h=>by simp [Go.stuck] at h
theorem ybr.bind {s:Sem α} {f:α->Sem β} (h:ybr P s) (hf: ∀x,ybr P (f x)):ybr P (s>>=f):=by
 rcases h with ⟨r,hr⟩|hn
 ·rcases hf r with ⟨q,hq⟩|hm
  ·exact .inl ⟨q,fun w=>by rw [Sem.run_bind,hr w,Result.andThen_ok,hq w]⟩
  ·exact .inr fun w q w1 h=>by rw [Sem.run_bind,hr w,Result.andThen_ok] at h;exact hm _ _ _ h
 ·refine .inr fun w q w1 h=>?_
  rw [Sem.run_bind] at h
  cases hs:s.run P w with
  |ok r w2=>exact hn _ _ _ hs
  |halt x w2=>rw [hs] at h;simp at h
theorem ybr.size (t:Nat):ybr P (sizeOf t):=by
 cases h:P.info? t with
 |some i=>exact .inl ⟨i.size,fun w=>by simp [sizeOf,typeInfo,h]⟩
 |none=>exact .inr fun w r w1 g=>by simp [sizeOf,typeInfo,h,Go.stuck] at g
theorem ybr.bound (x:Value) (y:Nat) (c:BoundsCode):ybr P (Instr.sliceBound x y c):=by
 unfold Instr.sliceBound
 refine .bind ?_ fun p=>?_
 ·cases x
  case int k n=>exact .pure _
  case pointer a=>cases a<;>first|exact .stuck _|exact .inr fun w r w1 g=>by simp [asIntOf,unsupported] at g
  all_goals exact .stuck _
 ·obtain ⟨k,i⟩:=p
  simp only
  split
  ·exact .pure _
  ·exact .inr fun w r w1 g=>by
    simp [boundsPanic,runtimePanic,goPanic] at g
    split at g<;>(try split at g)<;>cases g
theorem ybr.bounds (b:Bool) (len cap:Nat) (lo hi mx:Option Value):ybr P (Instr.sliceBounds b len cap lo hi mx):=by
 unfold Instr.sliceBounds
 cases lo<;>cases hi<;>cases mx<;>dsimp only
 all_goals repeat (first|exact .pure _|exact .bound _ _ _|exact .stuck _|refine .bind ?_ fun _=>?_)
theorem ybr.of_run {s s':Sem α} (h: ∀w,s.run P w=s'.run P w) (hs:ybr P s'):ybr P s:=by
 rcases hs with ⟨r,hr⟩|hn
 ·exact .inl ⟨r,fun w=>by rw [h,hr]⟩
 ·exact .inr fun w r w1 g=>hn w r w1 (by rw [←h];exact g)
theorem ybr.slice {t:Nat} {e:Nat} (h:tk P t= .slice e) (x:Value) (lo hi mx:Option Value):ybr P (Instr.sliceAt t x lo hi mx):=by
 refine .of_run (fun w=>ycw (yap h) (by simp) x lo hi mx) ?_
 cases x
 case slice a len cap=>
  refine .of_run (s':=do
   let (l,h,m)←Instr.sliceBounds true len cap lo hi mx
   let size←sizeOf e
   Pure.pure (Value.slice (if m=l then a else a.map (·.add (l*size))) (h-l) (m-l))) (fun w=>?_) (.bind (.bounds _ _ _ _ _ _) fun _=> .bind (.size _) fun _=> .pure _)
  simp [Instr.slice,run_underlying (yap h)]
 all_goals exact .inr fun w r w1 g=>by simp [Instr.slice,run_underlying (yap h),Go.stuck] at g
def ypp (P:Program):Op->Bool
 | .move _| .assign _=>true
 | .slice t _ _ _ none=>match tk P t with
   | .slice _=>true
   |_=>false
 |_=>false
theorem yta {o:Oper} (h:ypp P o.op=true) (ev:Operand->Value):ybr P (execOp ev o):=by
 cases ho:o.op with
 |move x=>simp only [execOp,ho];exact .pure _
 |assign x=>simp only [execOp,ho];exact .pure _
 |slice t x lo hi mx=>
  rw [ho] at h
  cases mx with
  |some _=>cases h
  |none=>
   simp only [ypp] at h
   split at h
   ·rename_i e hk
    simp only [execOp,ho]
    exact .bind (.slice hk _ _ _ _) fun _=> .pure _
   ·cases h
 |_=>rw [ho] at h;cases h
theorem yyj {o:Oper} (h:ypp P o.op=true) {N:Nat} {fr:Fr} {H:Hp} {K:Fr->Hp->Prop} (hq:awO P N o fr H K): ∃p r,quF P H (evA fr) o.op=some (p,r)/\p/\dok o.dst N=true/\K (fput fr o.dst r) H:=by
 obtain ⟨_,hq⟩:=hq
 split at hq
 ·rename_i p r e;exact ⟨p,r,e,hq⟩
 ·rename_i e
  exfalso
  cases ho:o.op with
  |move x=>rw [ho] at e;simp [quF,opF] at e
  |assign x=>rw [ho] at e;simp [quF,opF] at e
  |slice t x lo hi mx=>
   simp only [ho,alF,awX,spOp] at hq
   exact absurd hq.1 (by decide)
  |_=>rw [ho] at h;cases h
end
def eagN (P:Program) (ops:Array Oper) (listed:Array Bool):List (Nat×Tr)->Bool
 |[(i,_)]=>Region.free .any ops listed i&&(Region.ready .any ops listed).contains i&&(match ops[i]? with|some o=>o.guard.isNone&&ypp P o.op|none=>false)
 |_=>false
mutual
def chkE (P:Program) (ops:Array Oper) (listed:Array Bool):Nat->Tr->Bool
 |0, .done=>(Region.ready .any ops listed).isEmpty
 |f+1, .node l=>(eagN P ops listed l||(!(Region.ready .any ops listed).isEmpty&&(Region.ready .any ops listed==l.map (·.1))))&&ypq P ops listed f l
 |_,_=>false
def ypq (P:Program) (ops:Array Oper) (listed:Array Bool) (f:Nat):List (Nat×Tr)->Bool
 |[]=>true
 |(i,t)::r=>chkE P ops (listed.setIfInBounds i true) f t&&ypq P ops listed f r
end
theorem yiz {P:Program} {ops:Array Oper} {listed:Array Bool} {f:Nat}: ∀(l:List (Nat×Tr)),ypq P ops listed f l=true-> ∀q∈l,chkE P ops (listed.setIfInBounds q.1 true) f q.2=true
 |[],_,q,hq=>by cases hq
 |(i,t)::r,h,q,hq=>by
  simp only [ypq,Bool.and_eq_true] at h
  rcases List.mem_cons.1 hq with e|e
  ·subst e;exact h.1
  ·exact yiz r h.2 q e
theorem yyk {P:Program} {N:Nat} {ops:Array Oper} {B:Nat} {w0:ybd} {Mx:Nat->Prop} {K:Fr->Hp->Prop} (hsel:Region.noSelect ops=true) (Q:Exit->Act->World->Prop) (hP: ∀c a w,¬Q (.panic c) a w) (hQ: ∀a' w' ρ' fr' H',K fr' H'->Sim B w0 Mx N w' ρ' fr' H' a'->Q .normal a' w'): ∀(f:Nat) (t:Tr) (listed:Array Bool) (w:World) (ρ:Nat->Addr) (fr:Fr) (H:Hp) (a:Act),chkE P ops listed f t=true->awT P N ops t fr H K->Sim B w0 Mx N w ρ fr H a->wpAny P .any ops Q f listed a w:=by
 intro f
 induction f with
 |zero=>
  intro t listed w ρ fr H a hc h hs
  cases t with
  |done=>
   simp only [chkE,List.isEmpty_iff] at hc
   simp only [awT] at h
   exact ⟨hc,hQ _ _ ρ _ _ h hs⟩
  |node l=>simp [chkE] at hc
 |succ f ih=>
  intro t listed w ρ fr H a hc h hs
  cases t with
  |done=>simp [chkE] at hc
  |node l=>
   simp only [chkE,Bool.and_eq_true,Bool.or_eq_true] at hc
   obtain ⟨hc1,hc2⟩:=hc
   simp only [awT] at h
   rcases hc1 with hc1|hc1
   ·unfold eagN at hc1
    split at hc1
    ·rename_i i t'
     simp only [Bool.and_eq_true] at hc1
     obtain ⟨⟨hf,hr⟩,ho⟩:=hc1
     cases hoi:ops[i]? with
     |none=>rw [hoi] at ho;cases ho
     |some o=>
      rw [hoi] at ho
      simp only [Bool.and_eq_true,Option.isNone_iff_eq_none] at ho
      have h1:=yhs _ h (i,t') (List.mem_singleton.2 rfl)
      have h2:=yiz _ hc2 (i,t') (List.mem_singleton.2 rfl)
      simp only [hoi,Option.toList_some,awL,ho.1] at h1
      obtain ⟨p,r,hq,hp,hd,hk⟩:=yyj ho.2 h1
      obtain ⟨v,hrun,hv⟩:=ygf (P:=P) (o:=o) (a:=a) hs.objs hs.ev (fun s d x e=>by rw [e] at ho;cases ho.2) hq hp
      have hw:Region.wanted o (yielded ops a.tmps)=true:=by simp [Region.wanted,ho.1]
      have hy:Yields P ops o v a:= .inl ⟨hw,fun w'=>by
       rcases yta ho.2 a.eval with ⟨r',hr'⟩|hn
       ·have:=hr' w;rw [hrun] at this;cases this;exact hr' w'
       ·exact absurd hrun (hn _ _ _)⟩
      exact wpAny_take hoi hsel hf hr (fun c a w h=>absurd h (hP c _ _)) hy (ih t' _ w ρ _ _ _ h2 hk (hs.put hd hv))
    ·cases hc1
   ·simp only [Bool.and_eq_true,Bool.not_eq_true',beq_iff_eq] at hc1
    refine ⟨fun hnil=>by rw [hnil] at hc1;simp at hc1,fun i hi=>?_⟩
    rw [hc1.2] at hi
    obtain ⟨q,hq,rfl⟩:=List.mem_map.1 hi
    have h1:=yhs l h q hq
    have h2:=yiz l hc2 q hq
    have hr:q.1∈Region.ready .any ops listed:=by rw [hc1.2];exact List.mem_map_of_mem hq
    obtain ⟨_,o,g2,_⟩:=mem_ready.1 hr
    rw [g2] at h1
    exact ymf g2 h1 hs _ _ fun a' w' ρ' fr' H' hk hs'=>ih q.2 _ w' ρ' fr' H' a' h2 hk hs'
def y83 (Q:Act->World->Prop):Exit->Act->World->Prop
 | .normal,a,w=>Q a w
 |_,_,_=>False
theorem yae.introE {P:Program} {N:Nat} {ops:Array Oper} {id:Nat} {fr:Fr} {H:Hp} {Q:Exit->Fr->Hp->Prop} (t:Tr) (hchk:(chkE P ops (Array.replicate ops.size false) ops.size t&&Region.noSelect ops)=true) (hm:P.follows .mixedOrders=true)
  (h:awT P N ops t fr H (Q .normal)):yae P N id ops fr H Q:=by
 simp only [Bool.and_eq_true] at hchk
 refine ⟨fun B w0 Mx w ρ a hs=>wp_mono (wp_region_any (Q:=y83 fun a' w'=> ∃ρ' fr' H',Q .normal fr' H'/\Sim B w0 Mx N w' ρ' fr' H' a') hm (yyk hchk.2 _ (fun _ _ _ h=>h) (fun _ _ ρ' fr' H' hk hs'=>⟨ρ',fr',H',hk,hs'⟩) ops.size t _ _ ρ fr H a hchk.1 h hs.draw)) fun e a' w' h=>?_⟩
 cases e<;>first|exact h|exact h.elim
end Go.Proofs.YtphjphpmfflfpaaDoor
