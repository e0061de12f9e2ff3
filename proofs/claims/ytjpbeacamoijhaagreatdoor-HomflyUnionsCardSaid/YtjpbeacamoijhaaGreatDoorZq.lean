/- The reference of layer 1: valid diagrams. -/
import Derived.Test.YtjpbeacamoijhaaGreatDoorZp
import Derived.Test.YtjpbeacamoijhaaGreatDoorZa
import Derived.Test.YtjpbeacamoijhaaGreatDoorZm
import Derived.Test.YtjpbeacamoijhaaGreatDoorZo
import Derived.Test.YtjpbeacamoijhaaGreatDoorZi
set_option linter.unusedSimpArgs false
set_option linter.unusedVariables false
namespace Go.Proofs.YtjpbeacamoijhaaGreatDoor
open Go Go.RowKit
set_option maxRecDepth 100000
set_option maxHeartbeats 8000000
def Wg:List (List Nat):=[[],[],[],[71,72],[70],[70],[],[],[],[77],[76],[],[],[],[83,86],[83,86],[81,82,86],[86],[86],[81,82,83,84,85],[],[],[],[92,94,95,96],[92,94,95,96],[90,91,94,95,96],[94,95,96],[90,91,92,93,96],[90,91,92,93,96],[90,91,92,93,94,95],[],[],[]]
def We:List (List Nat):=[[],[],[],[],[3],[3],[],[],[],[],[9],[],[],[],[],[],[14,15],[],[],[14,15,16,17,18],[],[],[],[],[],[23,24],[],[23,24,25,26],[23,24,25,26],[23,24,25,26,27,28],[],[],[]]
def qd (lab:List Int) (ls:List (List Int)) (c:Int):Nat:=ls.countP fun l=>lab.getD (l.getD 0 0/4).toNat 0==c
theorem ZK (m lab:List Int) (c:Int):qd lab (dp (fun h=>af (cm m) m.length h) (fl m) m.length) c=jl m lab m.length c:=by
 unfold qd dp jl;rw [List.countP_map,List.countP_filter];refine List.countP_congr fun h hh=>?_;have e:(((af (cm m) m.length (h:Int)).getD 0 0)/4).toNat=h/4:=by
  unfold af;simp only [List.getD_cons_zero];omega
 simp only [Function.comp,e];cases fl m h<;>simp
theorem y2x {lab:List Int} {ls:List (List Int)} {c:Int} {i:Nat} (h:i<ls.length):qd lab (ls.take (i+1)) c=qd lab (ls.take i) c+if lab.getD ((ls.getD i []).getD 0 0/4).toNat 0=c then 1 else 0:=by
 unfold qd;rw [List.take_succ_eq_append_getElem h,List.countP_append];simp [zzB,h,List.countP_cons]
theorem y9s (lab:List Int) (ls:List (List Int)) (c:Int):qd lab ls c<=ls.length:=List.countP_le_length
theorem y9t (l:List Int) (n:Nat) (c:Int):dF l n c<=n:=by
 have:=List.countP_le_length (p:=fun c'=>l.getD c' 0==c) (l:=List.range n);simpa [dF] using this
def vh (m:List Int) (n k:Nat):Prop:= ∀c,c<k->(bX m n n).getD c 0=c->jl m (bX m n n) (4*n) c=dF (bX m n n) n c+2
theorem y2y {m:List Int} {n k:Nat} (h:vh m n k) (hx:(bX m n n).getD k 0=k->jl m (bX m n n) (4*n) k=dF (bX m n n) n k+2):vh m n (k+1):=fun c hc=>by
 rcases zzV c k with g|g
 ·exact h c g
 ·obtain rfl:c=k:=by omega
  exact hx
theorem vrF {s m:List Int} {L:Int} (h:rz s m L=true) (hn: ¬vh m s.length s.length):false=bf s m L:=by
 rw [Cf];unfold zH;rw [h];cases e:qI m s.length with
 |false=>rfl
 |true=>exact absurd (JW.1 e) hn
theorem vrT {s m:List Int} {L:Int} (h:rz s m L=true) (hn:vh m s.length s.length):true=bf s m L:=by
 rw [Cf];unfold zH;rw [h,JW.2 hn];rfl
theorem Um (s m:List Int) (L:Int):Fn Tryz.prog 13 [dgA s m L] (.bool (bf s m L)):=by
 refine Fn.intro [.tmp 2] Tryz.func13 rfl rfl (by decide) (by simp [Tryz.ntmps13]) ?_;rw [Tryz.ntmps13]
 repeat' (first|omega|(try apply ah);simp only [go_sem,sevalprocAttr]|apply ag<;>(intro h_;(try simp only [h_]);revert h_)|apply zzL|with_reducible intro h_|trivial|simp only [go_sem,ai];omega)
 all_goals first|exact uv (by omega)|skip
 refine cN.intro (fun n fr H=> ∃k:Nat,k<=s.length/\n=s.length-k/\ta s k/\fr=[(4,I k),(3,I s.length),(1, .ptr 0 0)]/\H=[(0, .cells 24 (.lst [roI s,roI m,I L]))]) ?_ ?_
 ·refine ⟨_,_,_,?_,0,by omega,rfl,(fun i hi=>by omega),rfl,rfl⟩;refine Wk.sub ?_ ?_<;>simp only [go_sem,sevalprocAttr]
 rintro n fr H ⟨k,hk,rfl,oV,rfl,rfl⟩
 repeat' (first|omega|(try apply ah);simp only [go_sem,sevalprocAttr]|apply ag<;>(intro h_;(try simp only [h_]);revert h_)|apply zzL|with_reducible intro h_|trivial|simp only [go_sem,ai];omega)
 all_goals first
  |exact uv fun hv=>by have:=hv.2.2.2.2.1 k (by omega);omega
  |(refine ⟨_,_,_,?_,?_,⟨k+1,by omega,rfl,NK oV (by omega),rfl,rfl⟩⟩
    ·omega
    ·refine Wk.sub ?_ ?_<;>simp only [go_sem,sevalprocAttr])
  |skip
 obtain rfl:k=s.length:=by omega
 refine cN.intro (fun n fr H=> ∃k:Nat,k<=m.length/\n=m.length-k/\yX s m k/\fr=[(5,I k),(3,I s.length),(1, .ptr 0 0)]/\H=[(0, .cells 24 (.lst [roI s,roI m,I L]))]) ?_ ?_
 ·refine ⟨_,_,_,?_,0,by omega,rfl,(fun i hi=>by omega),rfl,rfl⟩;refine Wk.sub ?_ ?_<;>simp only [go_sem,sevalprocAttr]
 rintro n fr H ⟨h,hh,rfl,Ai,rfl,rfl⟩
 repeat' (first|omega|(first|apply ah|(refine ba.intro (id:=13) Wg We (by decide+kernel) mixed ?_)|skip);simp only [go_sem,sevalprocAttr,↓reduceIte,reduceCtorEq,Wg,We]|apply ag<;>(intro h_;(try simp only [h_]);revert h_)|apply zzL|with_reducible intro h_|trivial|simp only [go_sem,ai];omega)
 all_goals first|exact uv fun hv=>by have:=hv.2.2.2.2.2 h (by omega);omega|skip
 ·have h4:m.getD h 0<4*s.length:=by assumption
  refine ⟨bS.fn rfl (Jk s h (by omega) (by omega) (by omega)) ?_⟩
  repeat' (first|omega|(try apply ah);simp only [go_sem,sevalprocAttr]|apply ag<;>(intro h_;(try simp only [h_]);revert h_)|apply zzL|with_reducible intro h_|trivial|simp only [go_sem,ai];omega)
  refine ⟨bS.fn rfl (Jk s (m.getD h 0) (by assumption) h4 (by omega)) ?_⟩
  repeat' (first|omega|(try apply ah);simp only [go_sem,sevalprocAttr]|apply ag<;>(intro h_;(try simp only [h_]);revert h_)|apply zzL|with_reducible intro h_|trivial|simp only [go_sem,ai];omega)
  all_goals first
   |exact uv fun hv=>by have:=hv.2.2.2.2.2 h (by omega);simp_all
   |(refine ⟨_,_,_,?_,?_,⟨h+1,by omega,rfl,VC Ai ⟨by assumption,h4,by assumption,by assumption,by assumption⟩,rfl,rfl⟩⟩
     ·omega
     ·refine Wk.sub ?_ ?_<;>simp only [go_sem,sevalprocAttr])
 ·have hm:m.length=4*s.length:=by omega
  obtain rfl:h=4*s.length:=by omega
  have xA:pT m s.length:=⟨hm,fun i hi=>⟨(Ai i hi).1,(Ai i hi).2.1⟩⟩;have Ys:rz s m L=true:=by unfold rz;exact decide_eq_true ⟨by omega,hm,by assumption,by assumption,oV,Ai⟩
  refine ⟨aL.fn rfl (y2d m s.length (by omega) xA) ?_⟩
  repeat' (first|omega|(try apply ah);simp only [go_sem,sevalprocAttr]|apply ag<;>(intro h_;(try simp only [h_]);revert h_)|apply zzL|with_reducible intro h_|trivial|simp only [go_sem,ai];omega)
  refine ⟨aL.fn rfl (y2e m s.length (by omega) hm (fun i hi=>xA.2 i (by omega))) ?_⟩
  repeat' (first|omega|(try apply ah);simp only [go_sem,sevalprocAttr]|apply ag<;>(intro h_;(try simp only [h_]);revert h_)|apply zzL|with_reducible intro h_|trivial|simp only [go_sem,ai];omega)
  have hll:=L4 m s.length s.length;have uL: ∀l∈dp (fun h=>af (cm m) m.length h) (fl m) m.length,0<l.length/\0<=l.getD 0 0/\l.getD 0 0<4*s.length:=fun l hl=>by
   unfold dp at hl;obtain ⟨x,hx,rfl⟩:=List.mem_map.1 hl;have zi:=List.mem_range.1 (List.mem_filter.1 hx).1;unfold af;simp;omega
  have Qu:=fun c:Int=>ZK m (bX m s.length s.length) c;have hfn:(dp (fun h=>af (cm m) m.length h) (fl m) m.length).length<=m.length:=by
   have:=List.length_filter_le (fl m) (List.range m.length)
   simp only [dp,List.length_map];simp only [List.length_range] at this;exact this
  generalize dp (fun h=>af (cm m) m.length h) (fl m) m.length=fs at*;have Yj:vh m s.length 0:=fun c hc=>by omega
  have qa: ∀c:Nat,c<s.length->(bX m s.length s.length).getD c 0=c->qd (bX m s.length s.length) fs c≠dF (bX m s.length s.length) s.length c+2->false=bf s m L:=fun c hc h1 h2=>vrF Ys fun hv=>h2 (by rw [Qu,hm];exact hv c hc h1)
  have GF: ∀c:Nat,qd (bX m s.length s.length) fs c=dF (bX m s.length s.length) s.length c+2->jl m (bX m s.length s.length) (4*s.length) c=dF (bX m s.length s.length) s.length c+2:=fun c h2=>by rw [<-h2,Qu,hm]
  refine cN.intro (fun n fr H=> ∃c:Nat,c<=s.length/\n=s.length-c/\vh m s.length c/\fr=[(9,I c),(8,qL fs),(7,roI (bX m s.length s.length)),(3,I s.length)]/\H=[]) ?_ ?_
  ·refine ⟨_,_,_,?_,0,by omega,rfl,Yj,rfl,rfl⟩;refine Wk.sub ?_ ?_<;>simp only [go_sem,sevalprocAttr]
  rintro n fr H ⟨c,hc,rfl,iw,rfl,rfl⟩;have Yh:=y2y iw;have eJ:=qa c;have hye:=GF c;clear qa GF Qu Yj;by_cases bF:c<s.length
  ·have bc:decide ((c:Int)<s.length)=true:=by simp;omega
   generalize Hb:bX m s.length s.length=lab at*;by_cases xD:lab.getD c 0=c
   ·have bl:(lab.getD c 0 !=(c:Int))=false:=by rw [xD];simp
    repeat' (first|omega|(try apply ah);simp only [go_sem,sevalprocAttr,bc,bl]|apply ag<;>(intro h_;(try simp only [h_]);revert h_)|apply zzL|with_reducible intro h_|trivial|simp only [go_sem,ai];omega)
    refine cN.intro (fun n fr H=> ∃b:Nat,b<=s.length/\n=s.length-b/\fr=[(12,I b),(10,I (dF lab b c)),(11,I 0),(9,I c),(8,qL fs),(7,roI lab),(3,I s.length)]/\H=[]) ?_ ?_
    ·refine ⟨_,_,_,?_,0,by omega,rfl,rfl,rfl⟩;refine Wk.sub ?_ ?_<;>simp only [go_sem,sevalprocAttr]
     all_goals simp [dF]
    rintro n fr H ⟨b,hb,rfl,rfl,rfl⟩;have rE:=y9t lab b c;by_cases tC:b<s.length
    ·have bb:decide ((b:Int)<s.length)=true:=by simp;omega
     have es:=UN lab b c;by_cases hbe:lab.getD b 0=c
     ·have bq:(lab.getD b 0==(c:Int))=true:=by rw [hbe];simp
      rw [zzJ hbe] at es
      repeat' (first|omega|(try apply ah);simp only [go_sem,sevalprocAttr,bb,bq]|apply ag<;>(intro h_;(try simp only [h_]);revert h_)|apply zzL|with_reducible intro h_|trivial|simp only [go_sem,ai];omega)
      refine ⟨_,_,_,?_,?_,⟨b+1,by omega,rfl,rfl,rfl⟩⟩
      ·omega
      ·rw [es];refine Wk.sub ?_ ?_<;>simp only [go_sem,sevalprocAttr]
       all_goals simp
     ·have bq:(lab.getD b 0==(c:Int))=false:=by simpa using hbe
      rw [zzI hbe] at es
      repeat' (first|omega|(try apply ah);simp only [go_sem,sevalprocAttr,bb,bq]|apply ag<;>(intro h_;(try simp only [h_]);revert h_)|apply zzL|with_reducible intro h_|trivial|simp only [go_sem,ai];omega)
      refine ⟨_,_,_,?_,?_,⟨b+1,by omega,rfl,rfl,rfl⟩⟩
      ·omega
      ·rw [es];refine Wk.sub ?_ ?_<;>simp only [go_sem,sevalprocAttr]
    ·obtain rfl:b=s.length:=by omega
     have bb:decide ((s.length:Int)<s.length)=false:=by simp
     repeat' (first|omega|(try apply ah);simp only [go_sem,sevalprocAttr,bb]|apply ag<;>(intro h_;(try simp only [h_]);revert h_)|apply zzL|with_reducible intro h_|trivial|simp only [go_sem,ai];omega)
     refine cN.intro (fun n fr H=> ∃i:Nat,i<=fs.length/\n=fs.length-i/\fr=[(13,I i),(10,I (dF lab s.length c)),(11,I (qd lab (fs.take i) c)),(9,I c),(8,qL fs),(7,roI lab),(3,I s.length)]/\H=[]) ?_ ?_
     ·refine ⟨_,_,_,?_,0,by omega,rfl,rfl,rfl⟩;refine Wk.sub ?_ ?_<;>simp only [go_sem,sevalprocAttr]
      all_goals simp [qd]
     rintro n fr H ⟨i,hi,rfl,rfl,rfl⟩;have sD:=y9s lab (fs.take i) c;have GO:(fs.take i).length<=i:=by simp;omega
     by_cases pO:i<fs.length
     ·have bi:decide ((i:Int)<fs.length)=true:=by simp;omega
      have hg:=Uh fs i pO;have zp:=uL (fs.getD i []) (by simp [pO]);have et:=y2x (lab:=lab) (c:=c) pO;have ed:((fs.getD i []).getD 0 0).tdiv 4=(fs.getD i []).getD 0 0/4:=s9 zp.2.1;by_cases hbe:lab.getD ((fs.getD i []).getD 0 0/4).toNat 0=c
      ·have bq:(lab.getD ((fs.getD i []).getD 0 0/4).toNat 0==(c:Int))=true:=by rw [hbe];simp
       rw [zzJ hbe] at et
       repeat' (first|omega|(try apply ah);simp only [go_sem,sevalprocAttr,bi,hg,ed,bq]|apply ag<;>(intro h_;(try simp only [h_]);revert h_)|apply zzL|with_reducible intro h_|trivial|simp only [go_sem,ai];omega)
       refine ⟨_,_,_,?_,?_,⟨i+1,by omega,rfl,rfl,rfl⟩⟩
       ·omega
       ·rw [et];refine Wk.sub ?_ ?_<;>simp only [go_sem,sevalprocAttr]
        all_goals simp
      ·have bq:(lab.getD ((fs.getD i []).getD 0 0/4).toNat 0==(c:Int))=false:=by simpa using hbe
       rw [zzI hbe] at et
       repeat' (first|omega|(try apply ah);simp only [go_sem,sevalprocAttr,bi,hg,ed,bq]|apply ag<;>(intro h_;(try simp only [h_]);revert h_)|apply zzL|with_reducible intro h_|trivial|simp only [go_sem,ai];omega)
       refine ⟨_,_,_,?_,?_,⟨i+1,by omega,rfl,rfl,rfl⟩⟩
       ·omega
       ·rw [et];refine Wk.sub ?_ ?_<;>simp only [go_sem,sevalprocAttr]
     ·obtain rfl:i=fs.length:=by omega
      have bi:decide ((fs.length:Int)<fs.length)=false:=by simp
      rw [List.take_length] at*
      repeat' (first|omega|(try apply ah);simp only [go_sem,sevalprocAttr,bi]|apply ag<;>(intro h_;(try simp only [h_]);revert h_)|apply zzL|with_reducible intro h_|trivial|simp only [go_sem,ai];omega)
      all_goals first
       |exact eJ bF xD (by omega)
       |(refine ⟨_,_,_,?_,?_,⟨c+1,by omega,rfl,Yh (fun _=>hye (by omega)),rfl,rfl⟩⟩
         ·omega
         ·refine Wk.sub ?_ ?_<;>simp only [go_sem,sevalprocAttr])
   ·have bl:(lab.getD c 0 !=(c:Int))=true:=by simpa using xD
    repeat' (first|omega|(try apply ah);simp only [go_sem,sevalprocAttr,bc,bl]|apply ag<;>(intro h_;(try simp only [h_]);revert h_)|apply zzL|with_reducible intro h_|trivial|simp only [go_sem,ai];omega)
    refine ⟨_,_,_,?_,?_,⟨c+1,by omega,rfl,Yh (fun q=>absurd q xD),rfl,rfl⟩⟩
    ·omega
    ·refine Wk.sub ?_ ?_<;>simp only [go_sem,sevalprocAttr]
  ·obtain rfl:c=s.length:=by omega
   have bc:decide ((s.length:Int)<s.length)=false:=by simp
   repeat' (first|omega|(try apply ah);simp only [go_sem,sevalprocAttr,bc]|apply ag<;>(intro h_;(try simp only [h_]);revert h_)|apply zzL|with_reducible intro h_|trivial|simp only [go_sem,ai];omega)
   exact vrT Ys iw
theorem UY (s m:List Int) (L:Int) (n h:Nat) (hn:n<=1000) (iR:m.length=4*n) (hm: ∀i,i<m.length->0<=m.getD i 0/\m.getD i 0<4*n) (hh:h<m.length):Fn Tryz.prog 106 [dgA s m L,I h] (roI (af (aS m) m.length h)):=by
 have vB: ∀g:Nat,g<m.length->Fn Tryz.prog 148 [I (m.getD g 0),I 2] (I (aS m g)):=fun g hg=>by
  have:=hm g hg
  exact Td _ _ (by omega) (by omega)
 have GX: ∀g:Nat,g<m.length->0<=aS m g/\aS m g<4*n:=fun g hg=>FE (hm g hg).1 (hm g hg).2;have Qz: ∀g:Nat,g<m.length->(g:Int)<m.length:=fun g hg=>by omega
 have Qe:=vB h hh;refine Fn.intro [.tmp 4] Tryz.func106 rfl rfl (by decide) (by simp [Tryz.ntmps106]) ?_;rw [Tryz.ntmps106]
 repeat' (first|omega|(try apply ah);simp only [go_sem,sevalprocAttr]|apply ag<;>(intro h_;(try simp only [h_]);revert h_)|apply zzL|with_reducible intro h_|trivial|simp only [go_sem,ai];omega)
 refine ⟨aL.fn rfl Qe ?_⟩
 repeat' (first|omega|(try apply ah);simp only [go_sem,sevalprocAttr]|apply ag<;>(intro h_;(try simp only [h_]);revert h_)|apply zzL|with_reducible intro h_|trivial|simp only [go_sem,ai];omega)
 refine cN.intro (fun k fr H=> ∃(acc:List Int) (g:Nat),g<m.length/\0<acc.length/\acc.length+k=m.length+2/\acc++iz (aS m) h (m.length+1-acc.length) g=af (aS m) m.length h/\fr=[(6,I g),(5, .sl 1 1 0 acc.length),(2, .ptr 0 0),(1,I h)]/\H=[(1, .cells 3 (.ints acc)),(0, .cells 24 (.lst [roI s,roI m,I L]))]) ?_ ?_
 ·have h2:=GX h hh;refine ⟨m.length+1,_,_,?_,[(h:Int)],(aS m h).toNat,by omega,by simp,by simp;omega,?_,rfl,rfl⟩
  ·refine Wk.sub ?_ ?_<;>simp only [go_sem,sevalprocAttr]
   all_goals omega
  ·rw [Int.toNat_of_nonneg h2.1];simp [af]
 rintro k fr H ⟨acc,g,hg,ha,hk,sH,rfl,rfl⟩;have qS:=vB g hg;have hr:=GX g hg;have key:((g:Int)=h\/m.length<acc.length)->acc=af (aS m) m.length h:=fun hc=>by
  rw [<-sH];rcases hc with e|e
  ·have:iz (aS m) h (m.length+1-acc.length) g=[]:=by
    cases m.length+1-acc.length with
    |zero=>rfl
    |succ f=>simp [iz,e]
   rw [this,List.append_nil]
  ·rw [show m.length+1-acc.length=0 by omega];simp [iz]
 repeat' (first|omega|(try apply ah);simp only [go_sem,sevalprocAttr]|apply ag<;>(intro h_;(try simp only [h_]);revert h_)|apply zzL|with_reducible intro h_|trivial|simp only [go_sem,ai];omega)
 ·refine ⟨aL.fn rfl qS ?_⟩
  repeat' (first|omega|(try apply ah);simp only [go_sem,sevalprocAttr]|apply ag<;>(intro h_;(try simp only [h_]);revert h_)|apply zzL|with_reducible intro h_|trivial|simp only [go_sem,ai];omega)
  refine ⟨k-1,_,_,?_,?_,⟨acc++[(g:Int)],(aS m g).toNat,by omega,by simp,by simp;omega,?_,rfl,rfl⟩⟩
  ·omega
  ·refine Wk.sub ?_ ?_<;>simp only [go_sem,sevalprocAttr]
   all_goals omega
  ·rw [<-sH,Int.toNat_of_nonneg hr.1,show m.length+1-acc.length=(m.length+1-(acc++[(g:Int)]).length)+1 by simp;omega];rw [iz,zzI (by omega)];simp
 all_goals first
  |exact congrArg List.length (key (by omega))
  |(rw [List.take_length];exact key (by omega))
def qC (s m:List Int) (h:Nat):Bool:=aj s h&&mZ h (af (aS m) m.length h)
theorem yuv (s m:List Int) (L:Int) (n:Nat) (cP:s.length=n) (hn:n<=1000) (iR:m.length=4*n) (hm: ∀i,i<m.length->0<=m.getD i 0/\m.getD i 0<4*n):Fn Tryz.prog 62 [dgA s m L] (qL (dp (fun h=>af (aS m) m.length h) (qC s m) m.length)):=by
 refine Fn.aG [.tmp 2] Tryz.func62 rfl rfl (by decide) (by simp [Tryz.ntmps62]) ?_;rw [Tryz.ntmps62]
 repeat' (first|omega|(try apply ah);simp only [go_sem,sevalprocAttr]|apply ag<;>(intro h_;(try simp only [h_]);revert h_)|apply zzL|with_reducible intro h_|trivial|simp only [go_sem,ai];omega)
 refine cN.intro (fun t fr H=> ∃h:Nat,h<=m.length/\t=m.length-h/\((dp (fun h=>af (aS m) m.length h) (qC s m) h=[]/\fr=[(4,I h),(3, .nils),(1, .ptr 0 0)]/\H=[(0, .cells 24 (.lst [roI s,roI m,I L]))])\/
  (fr=[(4,I h),(3, .sl 1 2 0 (dp (fun h=>af (aS m) m.length h) (qC s m) h).length),(1, .ptr 0 0)]/\H=[(2, .cells 22 (.lst ((dp (fun h=>af (aS m) m.length h) (qC s m) h).map pW))),(0, .cells 24 (.lst [roI s,roI m,I L]))]))) ?_ ?_
 ·refine ⟨_,_,_,?_,0,by omega,rfl, .inl ⟨rfl,rfl,rfl⟩⟩;refine Wk.sub ?_ ?_<;>simp only [go_sem,sevalprocAttr]
 rintro t fr H ⟨h,hh,rfl,nV⟩;have hlen:(dp (fun h=>af (aS m) m.length h) (qC s m) h).length<=h:=by
  have:=List.length_filter_le (qC s m) (List.range h)
  simp only [dp,List.length_map];simp only [List.length_range] at this;exact this
 have zl:(af (aS m) m.length h).length<=m.length+1:=Tv _ _ _;rcases nV with ⟨iB,rfl,rfl⟩|⟨rfl,rfl⟩
 ·by_cases aD:h<m.length
  ·have bh:decide ((h:Int)<m.length)=true:=by simp;omega
   have hF:=UY s m L n h hn iR hm aD;have hO:=Jk s h (by omega) (by omega) (by omega)
   repeat' (first|omega|(try apply ah);simp only [go_sem,sevalprocAttr,bh]|apply ag<;>(intro h_;(try simp only [h_]);revert h_)|apply zzL|with_reducible intro h_|trivial|simp only [go_sem,ai];omega)
   refine ⟨aL.fn rfl hO ?_⟩;cases jM:aj s h with
   |false=>
    have hb:qC s m h=false:=by simp [qC,jM]
    have eS:=DT (orb:=fun h=>af (aS m) m.length h) hb
    repeat' (first|omega|(try apply ah);simp only [go_sem,sevalprocAttr]|apply ag<;>(intro h_;(try simp only [h_]);revert h_)|apply zzL|with_reducible intro h_|trivial|simp only [go_sem,ai];omega)
    refine ⟨_,_,_,?_,?_,⟨h+1,by omega,rfl, .inl ⟨by rw [eS];exact iB,rfl,rfl⟩⟩⟩
    ·omega
    ·first|rw [eS]|skip
     refine Wk.sub ?_ ?_<;>simp only [go_sem,sevalprocAttr]
   |true=>
    repeat' (first|omega|(try apply ah);simp only [go_sem,sevalprocAttr]|apply ag<;>(intro h_;(try simp only [h_]);revert h_)|apply zzL|with_reducible intro h_|trivial|simp only [go_sem,ai];omega)
    refine ⟨aL.fn rfl hF ?_⟩
    repeat' (first|omega|(try apply ah);simp only [go_sem,sevalprocAttr]|apply ag<;>(intro h_;(try simp only [h_]);revert h_)|apply zzL|with_reducible intro h_|trivial|simp only [go_sem,ai];omega)
    refine cN.intro (fun t fr H=> ∃i:Nat,i<=(af (aS m) m.length h).length/\t=(af (aS m) m.length h).length-i/\fr=[(7,I i),(6, .bool (mZ h ((af (aS m) m.length h).take i))),(5,roI (af (aS m) m.length h)),(4,I h),(3, .nils),(1, .ptr 0 0)]/\H=[(0, .cells 24 (.lst [roI s,roI m,I L]))]) ?_ ?_
    ·refine ⟨_,_,_,?_,0,by omega,rfl,rfl,rfl⟩;refine Wk.sub ?_ ?_<;>simp only [go_sem,sevalprocAttr]
     all_goals simp [mZ]
    rintro t fr H ⟨i,hi,rfl,rfl,rfl⟩;by_cases pO:i<(af (aS m) m.length h).length
    ·have bi:decide ((i:Int)<(af (aS m) m.length h).length)=true:=by simp;omega
     have el:=Km (x:=h) pO;cases hb:mZ h ((af (aS m) m.length h).take i) with
     |false=>
      rw [hb] at el
      repeat' (first|omega|(try apply ah);simp only [go_sem,sevalprocAttr,bi]|apply ag<;>(intro h_;(try simp only [h_]);revert h_)|apply zzL|with_reducible intro h_|trivial|simp only [go_sem,ai];omega)
      refine ⟨_,_,_,?_,?_,⟨i+1,by omega,rfl,rfl,rfl⟩⟩
      ·omega
      ·rw [el];refine Wk.sub ?_ ?_<;>simp only [go_sem,sevalprocAttr]
     |true=>
      rw [hb] at el
      repeat' (first|omega|(try apply ah);simp only [go_sem,sevalprocAttr,bi]|apply ag<;>(intro h_;(try simp only [h_]);revert h_)|apply zzL|with_reducible intro h_|trivial|simp only [go_sem,ai];omega)
      refine ⟨_,_,_,?_,?_,⟨i+1,by omega,rfl,rfl,rfl⟩⟩
      ·omega
      ·rw [el];refine Wk.sub ?_ ?_<;>simp only [go_sem,sevalprocAttr]
    ·obtain rfl:i=(af (aS m) m.length h).length:=by omega
     have bi:decide (((af (aS m) m.length h).length:Int)<(af (aS m) m.length h).length)=false:=by simp
     have ef:mZ h ((af (aS m) m.length h).take (af (aS m) m.length h).length)=qC s m h:=by rw [List.take_length];simp [qC,jM]
     rw [ef];cases hb:qC s m h with
     |false=>
      have eS:=DT (orb:=fun h=>af (aS m) m.length h) hb
      repeat' (first|omega|(try apply ah);simp only [go_sem,sevalprocAttr,bi]|apply ag<;>(intro h_;(try simp only [h_]);revert h_)|apply zzL|with_reducible intro h_|trivial|simp only [go_sem,ai];omega)
      refine ⟨_,_,_,?_,?_,⟨h+1,by omega,rfl, .inl ⟨by rw [eS];exact iB,rfl,rfl⟩⟩⟩
      ·omega
      ·first|rw [eS]|skip
       refine Wk.sub ?_ ?_<;>simp only [go_sem,sevalprocAttr]
     |true=>
      have eS:=IW (orb:=fun h=>af (aS m) m.length h) hb
      repeat' (first|omega|(try apply ah);simp only [go_sem,sevalprocAttr,bi,List.length_map]|apply ag<;>(intro h_;(try simp only [h_]);revert h_)|apply zzL|with_reducible intro h_|trivial|simp only [go_sem,ai];omega)
      refine ⟨_,_,_,?_,?_,⟨h+1,by omega,rfl, .inr ⟨rfl,rfl⟩⟩⟩
      ·omega
      ·rw [eS];rw [iB];refine Wk.sub ?_ ?_<;>simp only [go_sem,sevalprocAttr]
       all_goals first
        |rfl
        |exact ⟨rfl,rfl⟩
        |exact ⟨rfl,rfl,rfl⟩
  ·obtain rfl:h=m.length:=by omega
   have bh:decide ((m.length:Int)<m.length)=false:=by simp
   repeat' (first|omega|(try apply ah);simp only [go_sem,sevalprocAttr,bh]|apply ag<;>(intro h_;(try simp only [h_]);revert h_)|apply zzL|with_reducible intro h_|trivial|simp only [go_sem,ai];omega)
   all_goals first
    |(rw [iB];exact bE.nils (by omega) rfl)
    |exact y7 _ _ _ _ h_
    |exact y7 _ _ _ _ (List.mem_of_mem_take h_)
    |(rw [zzR (by simp)];exact bE.refl _)
 ·by_cases aD:h<m.length
  ·have bh:decide ((h:Int)<m.length)=true:=by simp;omega
   have hF:=UY s m L n h hn iR hm aD;have hO:=Jk s h (by omega) (by omega) (by omega)
   repeat' (first|omega|(try apply ah);simp only [go_sem,sevalprocAttr,bh]|apply ag<;>(intro h_;(try simp only [h_]);revert h_)|apply zzL|with_reducible intro h_|trivial|simp only [go_sem,ai];omega)
   refine ⟨aL.fn rfl hO ?_⟩;cases jM:aj s h with
   |false=>
    have hb:qC s m h=false:=by simp [qC,jM]
    have eS:=DT (orb:=fun h=>af (aS m) m.length h) hb
    repeat' (first|omega|(try apply ah);simp only [go_sem,sevalprocAttr]|apply ag<;>(intro h_;(try simp only [h_]);revert h_)|apply zzL|with_reducible intro h_|trivial|simp only [go_sem,ai];omega)
    refine ⟨_,_,_,?_,?_,⟨h+1,by omega,rfl, .inr ⟨rfl,rfl⟩⟩⟩
    ·omega
    ·first|rw [eS]|skip
     refine Wk.sub ?_ ?_<;>simp only [go_sem,sevalprocAttr]
   |true=>
    repeat' (first|omega|(try apply ah);simp only [go_sem,sevalprocAttr]|apply ag<;>(intro h_;(try simp only [h_]);revert h_)|apply zzL|with_reducible intro h_|trivial|simp only [go_sem,ai];omega)
    refine ⟨aL.fn rfl hF ?_⟩
    repeat' (first|omega|(try apply ah);simp only [go_sem,sevalprocAttr]|apply ag<;>(intro h_;(try simp only [h_]);revert h_)|apply zzL|with_reducible intro h_|trivial|simp only [go_sem,ai];omega)
    refine cN.intro (fun t fr H=> ∃i:Nat,i<=(af (aS m) m.length h).length/\t=(af (aS m) m.length h).length-i/\fr=[(7,I i),(6, .bool (mZ h ((af (aS m) m.length h).take i))),(5,roI (af (aS m) m.length h)),(4,I h),(3, .sl 1 2 0 (dp (fun h=>af (aS m) m.length h) (qC s m) h).length),(1, .ptr 0 0)]/\H=[(2, .cells 22 (.lst ((dp (fun h=>af (aS m) m.length h) (qC s m) h).map pW))),(0, .cells 24 (.lst [roI s,roI m,I L]))]) ?_ ?_
    ·refine ⟨_,_,_,?_,0,by omega,rfl,rfl,rfl⟩;refine Wk.sub ?_ ?_<;>simp only [go_sem,sevalprocAttr]
     all_goals simp [mZ]
    rintro t fr H ⟨i,hi,rfl,rfl,rfl⟩;by_cases pO:i<(af (aS m) m.length h).length
    ·have bi:decide ((i:Int)<(af (aS m) m.length h).length)=true:=by simp;omega
     have el:=Km (x:=h) pO;cases hb:mZ h ((af (aS m) m.length h).take i) with
     |false=>
      rw [hb] at el
      repeat' (first|omega|(try apply ah);simp only [go_sem,sevalprocAttr,bi]|apply ag<;>(intro h_;(try simp only [h_]);revert h_)|apply zzL|with_reducible intro h_|trivial|simp only [go_sem,ai];omega)
      refine ⟨_,_,_,?_,?_,⟨i+1,by omega,rfl,rfl,rfl⟩⟩
      ·omega
      ·rw [el];refine Wk.sub ?_ ?_<;>simp only [go_sem,sevalprocAttr]
     |true=>
      rw [hb] at el
      repeat' (first|omega|(try apply ah);simp only [go_sem,sevalprocAttr,bi]|apply ag<;>(intro h_;(try simp only [h_]);revert h_)|apply zzL|with_reducible intro h_|trivial|simp only [go_sem,ai];omega)
      refine ⟨_,_,_,?_,?_,⟨i+1,by omega,rfl,rfl,rfl⟩⟩
      ·omega
      ·rw [el];refine Wk.sub ?_ ?_<;>simp only [go_sem,sevalprocAttr]
    ·obtain rfl:i=(af (aS m) m.length h).length:=by omega
     have bi:decide (((af (aS m) m.length h).length:Int)<(af (aS m) m.length h).length)=false:=by simp
     have ef:mZ h ((af (aS m) m.length h).take (af (aS m) m.length h).length)=qC s m h:=by rw [List.take_length];simp [qC,jM]
     rw [ef];cases hb:qC s m h with
     |false=>
      have eS:=DT (orb:=fun h=>af (aS m) m.length h) hb
      repeat' (first|omega|(try apply ah);simp only [go_sem,sevalprocAttr,bi]|apply ag<;>(intro h_;(try simp only [h_]);revert h_)|apply zzL|with_reducible intro h_|trivial|simp only [go_sem,ai];omega)
      refine ⟨_,_,_,?_,?_,⟨h+1,by omega,rfl, .inr ⟨rfl,rfl⟩⟩⟩
      ·omega
      ·first|rw [eS]|skip
       refine Wk.sub ?_ ?_<;>simp only [go_sem,sevalprocAttr]
     |true=>
      have eS:=IW (orb:=fun h=>af (aS m) m.length h) hb
      repeat' (first|omega|(try apply ah);simp only [go_sem,sevalprocAttr,bi,List.length_map]|apply ag<;>(intro h_;(try simp only [h_]);revert h_)|apply zzL|with_reducible intro h_|trivial|simp only [go_sem,ai];omega)
      refine ⟨_,_,_,?_,?_,⟨h+1,by omega,rfl, .inr ⟨rfl,rfl⟩⟩⟩
      ·omega
      ·rw [eS];rw [Vu];refine Wk.sub ?_ ?_<;>simp only [go_sem,sevalprocAttr]
       all_goals first
        |rfl
        |exact ⟨rfl,rfl⟩
        |exact ⟨rfl,rfl,rfl⟩
  ·obtain rfl:h=m.length:=by omega
   have bh:decide ((m.length:Int)<m.length)=false:=by simp
   repeat' (first|omega|(try apply ah);simp only [go_sem,sevalprocAttr,bh]|apply ag<;>(intro h_;(try simp only [h_]);revert h_)|apply zzL|with_reducible intro h_|trivial|simp only [go_sem,ai];omega)
   all_goals first
    |(rw [iB];exact bE.nils (by omega) rfl)
    |exact y7 _ _ _ _ h_
    |exact y7 _ _ _ _ (List.mem_of_mem_take h_)
    |(rw [zzR (by simp)];exact bE.refl _)
theorem ZJ {s:List Int} {h:Int} (h0:0<=h) (hs:s.getD (h/4).toNat 0=1\/s.getD (h/4).toNat 0= -1):aj s (iJ h 2)= !aj s h:=by
 have e:iJ h 2=h-h % 4+(h % 4+2)% 4:=by
  unfold iJ
  have:Int.tmod 2 4=2:=rfl
  rw [this];omega
 have ed:iJ h 2/4=h/4:=by rw [e];omega
 have em:iJ h 2 % 4=(h % 4+2)% 4:=by rw [e];omega
 unfold aj;rw [ed,em]
 have:h % 4=0\/h % 4=1\/h % 4=2\/h % 4=3:=by omega
 rcases this with g|g|g|g<;>rcases hs with k|k<;>rw [g,k]<;>decide
theorem y9u {s m:List Int} {L:Int} (hv:iV s m L) {x:Nat} (hx:x<4*s.length):aj s (aS m x)=aj s x:=by
 have hm:=hv.mt x hx;have hr:=hm.1;have hl:=hm.2.1
 have:=ZJ (s:=s) (h:=m.getD x 0) hr (hv.sg _ (by omega))
 unfold aS;rw [zzC,this];have aA:=hm.2.2.2.2;cases h1:aj s x<;>cases h2:aj s (m.getD x 0)<;>simp_all
theorem Sb {s m:List Int} {L:Int} (hv:iV s m L) {x:Nat} (hx:x<4*s.length): ∀j,aj s (it (aS m) j x)=aj s x
 |0=>rfl
 |j+1=>by
  have hR:av s.length (x:Int):=by unfold av;omega
  have hS:=(Ba hv.dw).it hR j;unfold av at hS;have e:it (aS m) j (x:Int)=((it (aS m) j (x:Int)).toNat:Int):=by omega
  have h1:=y9u hv (x:=(it (aS m) j (x:Int)).toNat) (by omega);rw [<-e] at h1;show aj s (aS m (it (aS m) j x))=_;rw [h1,Sb hv hx j]
theorem yuw {s m:List Int} {L:Int} (hv:iV s m L):dp (fun h=>af (aS m) m.length h) (qC s m) m.length=dr s m:=by
 have hl:=hv.len;have hR: ∀x:Nat,x<m.length->av s.length (x:Int):=fun x hx=>by unfold av;omega
 have se:=fun (x:Nat) (hx:x<m.length)=>by
  have:=A5 (Ba hv.dw) (hR x hx)
  rw [<-hl] at this;exact this
 refine (Ms (N:=m.length) (want:=aj s) (orb:=af (aS m) m.length) ?_ ?_ ?_ ?_ m.length (zzA _)).1.symm
 ·intro x hx _ y hy
  have:=(se x hx).2.1 y hy
  unfold av at this;omega
 ·intro x hx _;exact (se x hx).2.2.2.2.1
 ·intro x y hx hy hw hm;refine ⟨?_,(se x hx).2.2.1 y hm⟩;obtain ⟨j,hj⟩:=((se x hx).1 y).1 hm;rw [<-hj,Sb hv (by omega) j];exact hw
 ·intro x y z hx hy hz _ h1 h2;exact (se x hx).2.2.2.1 y h1 z h2
def Wd:Tr:= .node [(0, .node [(1, .node [(2,trD [3,4,5,6]),(3, .node [(2,trD [4,5,6]),(4,trD [2,5,6])])]),(3, .node [(1, .node [(2,trD [4,5,6]),(4,trD [2,5,6])]),(4,trD [1,2,5,6])])]),(3, .node [(0, .node [(1, .node [(2,trD [4,5,6]),(4,trD [2,5,6])]),(4,trD [1,2,5,6])]),(4,trD [0,1,2,5,6])])]
theorem VE (s m:List Int) (L:Int) (hv:bf s m L=true):Fn Tryz.prog 17 [dgA s m L] (I ((dr s m).length+L)):=by
 have v1:=bV hv;have Az:=v1.s64;have hl:=v1.len;have h0:=v1.l0;have h1:=v1.l64;have hS:=yuv s m L s.length rfl (by omega) hl (fun i hi=>v1.dw.ok.2 i (by omega));rw [yuw v1] at hS;have cP:=FF s m;refine Fn.intro [.tmp 2] Tryz.func17 rfl rfl (by decide) (by simp [Tryz.ntmps17]) ?_;rw [Tryz.ntmps17]
 repeat' (first|omega|(first|apply ah|(refine ba.intro (id:=1) [[6,7],[6,7],[6,7],[3,4,5],[3,4,5],[],[]] [[],[],[],[0,1,2],[0,1,2],[],[]] (by decide+kernel) mixed ?_)|(refine ba.bR (id:=1) (Wd) (by decide+kernel) mixed ?_)|skip);simp only [go_sem,sevalprocAttr,↓reduceIte,reduceCtorEq,Wd]|apply ag<;>(intro h_;(try simp only [h_]);revert h_)|apply zzL|with_reducible intro h_|trivial|simp only [go_sem,ai];omega)
 refine ⟨bS.fn rfl hS ?_⟩
 repeat' (first|omega|(try apply ah);simp only [go_sem,sevalprocAttr]|apply ag<;>(intro h_;(try simp only [h_]);revert h_)|apply zzL|with_reducible intro h_|trivial|simp only [go_sem,ai];omega)
def Wx:List (List Nat):=[[],[],[],[],[],[],[],[],[],[],[],[],[],[],[],[103,104,105,106,107],[102,104],[102,103],[102],[102],[102],[],[],[]]
def Ww:List (List Nat):=[[],[],[],[],[],[],[],[],[],[],[],[],[],[],[],[],[15],[15,16],[15],[15],[15],[],[],[]]
def Wv:Tr:=trP [0,1,2,3,4,5,6,7,8,9,10,11,12,13,14] (.node [(15, .node [(16,trD [17,18,19,20,21,22,23]),(17,trD [16,18,19,20,21,22,23])]),(16, .node [(15,trD [17,18,19,20,21,22,23]),(17, .node [(15,trD [18,19,20,21,22,23]),(18, .node [(15,trD [19,20,21,22,23]),(19, .node [(15,trD [20,21,22,23]),(20,trD [15,21,22,23])])])])]),(17, .node [(15,trD [16,18,19,20,21,22,23]),(16, .node [(15,trD [18,19,20,21,22,23]),(18, .node [(15,trD [19,20,21,22,23]),(19, .node [(15,trD [20,21,22,23]),(20,trD [15,21,22,23])])])])])])
def Wu:Tr:=trP [0,1,2] (.node [(3, .node [(4,trD [5,6,7,8,9]),(5,trD [4,6,7,8,9])]),(4, .node [(3,trD [5,6,7,8,9]),(5, .node [(3,trD [6,7,8,9]),(6,trD [3,7,8,9])])]),(5, .node [(3,trD [4,6,7,8,9]),(4, .node [(3,trD [6,7,8,9]),(6,trD [3,7,8,9])])])])
def Wt:List (List Nat):=[[133,134,135,136,137,138,139,20],[132,134,136,137,138,20],[132,133,136,137,138,20],[132,136,137,138,20],[132,133,134,135,137,138,139,20],[132,133,134,135,136,138,20],[132,133,134,135,136,137,20],[132,136,20],[20],[20],[142,20],[141,20],[132,133,134,135,136,137,138,139,140,131,141,142],[142],[]]
def Ws:List (List Nat):=[[],[0],[0,1],[0],[0,1,2,3],[0,1,2,3,4],[0,1,2,3,4,5],[0,4],[],[],[],[10],[0,1,2,3,4,5,6,7,8,9,10,11],[11],[]]
def Wr:Tr:=trP [0,1,2,3,4,5] (.node [(6, .node [(7,trD [8,9,10,11,12]),(8,trD [7,9,10,11,12])]),(7, .node [(6,trD [8,9,10,11,12]),(8, .node [(6,trD [9,10,11,12]),(9,trD [6,10,11,12])])]),(8, .node [(6,trD [7,9,10,11,12]),(7, .node [(6,trD [9,10,11,12]),(9,trD [6,10,11,12])])])])
theorem Sa {s m:List Int} {l:Nat} (v:iV s m l) (h:3*s.length+l<=16) (e:Int): -65536<=Hs.dO s m l e/\Hs.dO s m l e<=65536:=by
 have h1:=Hs.xL v (aJ e) (aB e);have h2:(2:Int)^(3*s.length+l)<=2^16:=by
  have:=Nat.pow_le_pow_right (n:=2) (by omega) h
  exact_mod_cast this
 have h3:(2:Int)^16=65536:=by decide
 rw [h3] at h2;unfold Hs.dO;omega
theorem yux:Fn Tryz.prog 26 [] (iy false mS):=by
 have t1:=Fs 1 (-1) (-1) (by decide) (by decide) (by decide) (by decide);have t2:=Fs 1 1 (-1) (by decide) (by decide) (by decide) (by decide);have hF:=Ur;rw [show bA (-1) (-1)=ow from rfl] at t1;rw [show bA 1 (-1)=pv from rfl] at t2;refine Fn.aG [.cell 0 29] Tryz.func26 rfl rfl (by decide) (by simp [Tryz.ntmps26]) ?_;rw [Tryz.ntmps26]
 repeat' (first|omega|(try apply ah);simp only [go_sem,sevalprocAttr,eG]|(refine ⟨aL.fn (r:=?_) rfl ?_ ?_⟩;rotate_left;assumption)|(refine ⟨bS.fn (r:=?_) rfl ?_ ?_⟩;rotate_left;assumption)|apply ag<;>(intro h_;(try simp only [h_]);revert h_)|apply zzL|with_reducible intro h_|trivial|simp only [go_sem,ai];omega)
 all_goals exact bE.refl _
section
variable {s m s' m':List Int} {l l':Nat}
theorem y9v (hv:bf s m l=true) (cw:bf s' m' l'=true) (hn:s.length<=4) (zo:s'.length<=4) (hl:l<=4) (qA:l'<=4) (n1:0<s.length\/0<l) (n2:0<s'.length\/0<l') {x y:Int}
  (hx:s.length=0/\x= -1\/ ∃i:Nat,x=i/\i<m.length/\aj s (i:Int)=true) (hy:s'.length=0/\y= -1\/ ∃i:Nat,y=i/\i<m'.length/\aj s' (i:Int)=true) {P:List (Int×Int)} (hP:cM P (Hs.dO s m l)):
  ∃S M,∃K:Nat,Fn Tryz.prog 27 [dgA s m l,I x,dgA s' m' l',I y] (.tup [dgA S M K,I 0])/\rM S M K/\ ∀e,Hs.dO S M K e=cvL P (Hs.dO s' m' l') e:=by
 have v1:=bV hv;have v2:=bV cw;have ml:=v1.len;have ml':=v2.len;have cP:(s++s').length=s.length+s'.length:=by simp
 have eb: ∀{s m:List Int} {l:Nat} {x:Int},(0<s.length\/0<l)->(s.length=0/\x= -1\/ ∃i:Nat,x=i/\i<m.length/\aj s (i:Int)=true)->mT s m l x=true:=fun {s m l x} h0 h=>by
  unfold mT;rcases h with ⟨h1,rfl⟩|⟨i,rfl,h1,h2⟩
  ·rw [zzJ rfl,decide_eq_true_eq];omega
  ·rw [zzI (by omega),h2,decide_eq_true (by omega),decide_eq_true (by omega)];rfl
 have h1:=eb n1 hx;have h2:=eb n2 hy;by_cases vr:x= -1\/y= -1
 ·have hS:=y9g s m l s' m' l' x y hv cw h1 h2 vr (by omega) (by omega);have ng:1<=l+l':=by
   rcases vr with rfl|rfl
   ·have:0<(l:Int):=by simpa [mT] using h1
    omega
   ·have:0<(l':Int):=by simpa [mT] using h2
    omega
  obtain ⟨K,hK⟩: ∃K:Nat,l+l'=K+1:=⟨l+l'-1,by omega⟩;have eK:(l:Int)+l'-1=(K:Nat):=by omega
  have tn:=Sp.dQ hv cw (by omega) (by omega);have Yb:bf (s++s') (Sp.bZ m m') (K:Nat)=true:=by
   have h:=tn;unfold bf rz at h⊢;simp only [zzS,decide_eq_true_eq] at h⊢;exact ⟨⟨h.1.1,h.1.2.1,by omega,by omega,h.1.2.2.2.2⟩,h.2⟩
  have hU:=fun e=>Hs.OL hv cw (by omega) (by omega) (by omega) (by rw [eK];exact Yb) n1 n2 hP e;rw [eK] at hS hU;refine ⟨_,_,K,hS,⟨Yb,by rw [cP];omega,by rw [cP];omega,?_⟩,hU⟩;rw [cP];rcases hx with ⟨a1,_⟩|⟨i,rfl,_,_⟩
  ·rcases hy with ⟨a2,_⟩|⟨j,rfl,_,_⟩
   ·right;omega
   ·left;omega
  ·left;omega
 ·rcases hx with ⟨_,rfl⟩|⟨i,rfl,x1,x2⟩
  ·exact absurd (.inl rfl) vr
  rcases hy with ⟨_,rfl⟩|⟨j,rfl,y1,y2⟩
  ·exact absurd (.inr rfl) vr
  have hS:=NS s m l s' m' l' i j hv cw (by omega) (by omega) (by omega) (by omega) x2 y2;have we:=Tm hv cw (show s.length+s'.length<=64 by omega) (show (l:Int)+l'<=64 by omega) (x:=i) (y:=j) (by omega) (by omega) x2 y2;have hU:=fun e=>Hs.OQ hv cw (by omega) (by omega) (by omega) (by omega) (x:=i) (y:=j) (by omega) (by omega) x2 y2 hP e
  rw [show (l:Int)+l'=((l+l':Nat):Int) by omega] at hS we hU;exact ⟨_,_,l+l',hS,⟨we,by rw [cP];omega,by rw [cP];omega,by rw [cP];omega⟩,hU⟩
end
theorem yor (s m:List Int) (L:Int) (s' m':List Int) (L':Int) (z:Int) (hz:0<=z/\z<=255) (z':Int) (wb:0<=z'/\z'<=255):Fn Tryz.prog 5 [dgA s m L,dgA s' m' L', .int .u8 z, .int .u8 z'] (.bool true):=by
 have hA:=ZL;have hV:=Um s m L;have qY:=Um s' m' L';cases hv:bf s m L with
 |false=>
  rw [hv] at hV;refine Fn.intro [.tmp 8] Tryz.func5 rfl rfl (by decide) (by simp [Tryz.ntmps5]) ?_;rw [Tryz.ntmps5]
  repeat' (first|omega|(try apply ah);simp only [go_sem,sevalprocAttr,hA]|(refine ⟨aL.fn (r:=?_) rfl ?_ ?_⟩;rotate_left;assumption)|(refine ⟨bS.fn (r:=?_) rfl ?_ ?_⟩;rotate_left;assumption)|apply ag<;>(intro h_;(try simp only [h_]);revert h_)|apply zzL|with_reducible intro h_|trivial|simp only [go_sem,ai];omega)
 |true=>
 rw [hv] at hV;cases cw:bf s' m' L' with
 |false=>
  rw [cw] at qY;refine Fn.intro [.tmp 8] Tryz.func5 rfl rfl (by decide) (by simp [Tryz.ntmps5]) ?_;rw [Tryz.ntmps5]
  repeat' (first|omega|(try apply ah);simp only [go_sem,sevalprocAttr,hA]|(refine ⟨aL.fn (r:=?_) rfl ?_ ?_⟩;rotate_left;assumption)|(refine ⟨bS.fn (r:=?_) rfl ?_ ?_⟩;rotate_left;assumption)|apply ag<;>(intro h_;(try simp only [h_]);revert h_)|apply zzL|with_reducible intro h_|trivial|simp only [go_sem,ai];omega)
 |true=>
 rw [cw] at qY;by_cases c1:4<s.length
 ·have b1:decide ((4:Int)<s.length)=true:=by rw [decide_eq_true_iff];omega
  refine Fn.intro [.tmp 8] Tryz.func5 rfl rfl (by decide) (by simp [Tryz.ntmps5]) ?_;rw [Tryz.ntmps5]
  repeat' (first|omega|(try apply ah);simp only [go_sem,sevalprocAttr,b1]|(refine ⟨aL.fn (r:=?_) rfl ?_ ?_⟩;rotate_left;assumption)|(refine ⟨bS.fn (r:=?_) rfl ?_ ?_⟩;rotate_left;assumption)|apply ag<;>(intro h_;(try simp only [h_]);revert h_)|apply zzL|with_reducible intro h_|trivial|simp only [go_sem,ai];omega)
 have b1:decide ((4:Int)<s.length)=false:=by rw [decide_eq_false_iff_not];omega
 by_cases c2:4<s'.length
 ·have b2:decide ((4:Int)<s'.length)=true:=by rw [decide_eq_true_iff];omega
  refine Fn.intro [.tmp 8] Tryz.func5 rfl rfl (by decide) (by simp [Tryz.ntmps5]) ?_;rw [Tryz.ntmps5]
  repeat' (first|omega|(try apply ah);simp only [go_sem,sevalprocAttr,b1,b2]|(refine ⟨aL.fn (r:=?_) rfl ?_ ?_⟩;rotate_left;assumption)|(refine ⟨bS.fn (r:=?_) rfl ?_ ?_⟩;rotate_left;assumption)|apply ag<;>(intro h_;(try simp only [h_]);revert h_)|apply zzL|with_reducible intro h_|trivial|simp only [go_sem,ai];omega)
 have b2:decide ((4:Int)<s'.length)=false:=by rw [decide_eq_false_iff_not];omega
 by_cases c3:4<L
 ·have b3:decide ((4:Int)<L)=true:=by rw [decide_eq_true_iff];omega
  refine Fn.intro [.tmp 8] Tryz.func5 rfl rfl (by decide) (by simp [Tryz.ntmps5]) ?_;rw [Tryz.ntmps5]
  repeat' (first|omega|(try apply ah);simp only [go_sem,sevalprocAttr,b1,b2,b3]|(refine ⟨aL.fn (r:=?_) rfl ?_ ?_⟩;rotate_left;assumption)|(refine ⟨bS.fn (r:=?_) rfl ?_ ?_⟩;rotate_left;assumption)|apply ag<;>(intro h_;(try simp only [h_]);revert h_)|apply zzL|with_reducible intro h_|trivial|simp only [go_sem,ai];omega)
 have b3:decide ((4:Int)<L)=false:=by rw [decide_eq_false_iff_not];omega
 by_cases c4:4<L'
 ·have b4:decide ((4:Int)<L')=true:=by rw [decide_eq_true_iff];omega
  refine Fn.intro [.tmp 8] Tryz.func5 rfl rfl (by decide) (by simp [Tryz.ntmps5]) ?_;rw [Tryz.ntmps5]
  repeat' (first|omega|(try apply ah);simp only [go_sem,sevalprocAttr,b1,b2,b3,b4]|(refine ⟨aL.fn (r:=?_) rfl ?_ ?_⟩;rotate_left;assumption)|(refine ⟨bS.fn (r:=?_) rfl ?_ ?_⟩;rotate_left;assumption)|apply ag<;>(intro h_;(try simp only [h_]);revert h_)|apply zzL|with_reducible intro h_|trivial|simp only [go_sem,ai];omega)
 have b4:decide ((4:Int)<L')=false:=by rw [decide_eq_false_iff_not];omega
 have v1:=bV hv;have v2:=bV cw;have a1:=v1.l0;have a3:=v2.l0;obtain ⟨l,rfl⟩: ∃l:Nat,L=l:=⟨L.toNat,by omega⟩;obtain ⟨l',rfl⟩: ∃l':Nat,L'=l':=⟨L'.toNat,by omega⟩;have hC:=VE s m l hv;have Y6:=VE s' m' l' cw;by_cases c5:(dr s m).length+l=0
 ·have b5:(((dr s m).length:Int)+l==0)=true:=by rw [beq_iff_eq];omega
  refine Fn.intro [.tmp 8] Tryz.func5 rfl rfl (by decide) (by simp [Tryz.ntmps5]) ?_;rw [Tryz.ntmps5]
  repeat' (first|omega|(try apply ah);simp only [go_sem,sevalprocAttr,b1,b2,b3,b4,b5]|(refine ⟨aL.fn (r:=?_) rfl ?_ ?_⟩;rotate_left;assumption)|(refine ⟨bS.fn (r:=?_) rfl ?_ ?_⟩;rotate_left;assumption)|apply ag<;>(intro h_;(try simp only [h_]);revert h_)|apply zzL|with_reducible intro h_|trivial|simp only [go_sem,ai];omega)
 have b5:(((dr s m).length:Int)+l==0)=false:=by rw [zzU];omega
 by_cases c6:(dr s' m').length+l'=0
 ·have b6:(((dr s' m').length:Int)+l'==0)=true:=by rw [beq_iff_eq];omega
  refine Fn.intro [.tmp 8] Tryz.func5 rfl rfl (by decide) (by simp [Tryz.ntmps5]) ?_;rw [Tryz.ntmps5]
  repeat' (first|omega|(try apply ah);simp only [go_sem,sevalprocAttr,b1,b2,b3,b4,b5,b6]|(refine ⟨aL.fn (r:=?_) rfl ?_ ?_⟩;rotate_left;assumption)|(refine ⟨bS.fn (r:=?_) rfl ?_ ?_⟩;rotate_left;assumption)|apply ag<;>(intro h_;(try simp only [h_]);revert h_)|apply zzL|with_reducible intro h_|trivial|simp only [go_sem,ai];omega)
 have b6:(((dr s' m').length:Int)+l'==0)=false:=by rw [zzU];omega
 have np: ∀{s m:List Int} {l:Nat},iV s m l-> ¬(dr s m).length+l=0->0<s.length\/0<l:=fun {s m l} v h=>by
  rcases Nat.eq_zero_or_pos l with h1|h1
  ·left;obtain ⟨k,h2⟩: ∃k,k<(dr s m).length:=⟨0,by omega⟩;obtain ⟨x,h3,_⟩:=I4 v h2;omega
  ·exact .inr h1
 have n1:=np v1 c5;have n2:=np v2 c6;clear np c5 c6;have cP:(s++s').length=s.length+s'.length:=by simp
 have S1:=Hs.e8 v1;have S2:=Hs.e8 v2;have B1:=Sa v1 (by omega);have B2:=Sa v2 (by omega);obtain ⟨P,hP⟩:=Be S1 (by omega);obtain ⟨Q,hQ⟩:=Be S2 (by omega);have lP:=hP.kL S1 (by omega);have lQ:=hQ.kL S2 (by omega);have tT:cb (Hs.dO s m l) 30:=S1.mono (by omega);have Rb:cb (Hs.dO s' m' l') 30:=S2.mono (by omega)
 have SG:cb (fun e=>cvL P (Hs.dO s' m' l') e) 60:=cb.cv (N:=30) (M:=30) (fun t ht=>hP.oc tT ht) Rb (by decide) (by decide);have BG: ∀e,-429496729600000<=cvL P (Hs.dO s' m' l') e/\cvL P (Hs.dO s' m' l') e<=429496729600000:=fun e=>by
  have:=Sd (A:=65536) (B:=65536) B2 e (P:=P) fun t ht=>by rw [(hP.mem ht).1];exact B1 _
  omega
 obtain ⟨R,hR⟩:=Be SG (by decide);have lR:=hR.kL SG (by decide);have BR:nL fun e=>cvL P (Hs.dO s' m' l') e:=fun e=>by have:=BG e;dsimp only;omega
 have zu:=Nd (r:=R) (N:=30) (A:=65536) (B:=65536) hP hQ tT Rb (by decide) B1 B2 (by decide) (by decide) (by decide) hR BR (SG.mono (by decide));have fU:=SG.Zb (by decide);obtain ⟨U,hU⟩:=Be fU (by decide);have lU:=hU.kL fU (by decide);have YV:cM U (fun e=>cvL R (cfL mS) e):=hU.congr fun e=>by rw [B7 hR]
 have EI:=Nd (r:=U) (N:=60) (A:=429496729600000) (B:=1) hR Jm SG (Nj.mono (by decide)) (by decide) BG Ni (by decide) (by decide) (by decide) YV (fun e=>by
  dsimp only;rw [B7 hR];have h1:=BG (e-ow);have h2:=BG (e-pv);omega) (fun e he=>by
  dsimp only at he;rw [B7 hR] at he
  have:=fU e he
  omega)
 have fP:=tT.Zb (by decide);obtain ⟨T,hT⟩:=Be fP (by decide);have lT:=hT.kL fP (by decide);have cu:cM T (fun e=>cvL P (cfL mS) e):=hT.congr fun e=>by rw [B7 hP]
 have hM3:=Nd (r:=T) (N:=30) (A:=65536) (B:=1) hP Jm tT (Nj.mono (by decide)) (by decide) B1 Ni (by decide) (by decide) (by decide) cu (fun e=>by
  dsimp only;rw [B7 hP];have h1:=B1 (e-ow);have h2:=B1 (e-pv);omega) (fun e he=>by
  dsimp only at he;rw [B7 hP] at he
  have:=fP e he
  omega)
 have hUn:=y5j s m l s' m' l' hv cw (by omega) (by omega);have tn:=Sp.dQ hv cw (by omega) (by omega);have eU:=fun e=>Hs.unE hv cw (by omega) (by omega) tn n1 n2 hP e;have Pt:bf s m ((l:Int)+1)=true:=by
  have h:=hv;unfold bf rz at h⊢;simp only [zzS,decide_eq_true_eq] at h⊢;exact ⟨⟨h.1.1,h.1.2.1,by omega,by omega,h.1.2.2.2.2⟩,h.2⟩
 have eM:=fun e=>Hs.Gs v1 (by omega) n1 e;have e2:(l:Int)+l'=((l+l':Nat):Int):=by omega
 rw [e2] at hUn tn eU;have em:(l:Int)+1=((l+1:Nat):Int):=by omega
 rw [em] at Pt eM;have k1:rM s m l:=⟨hv,by omega,by omega,n1⟩;have k2:rM s' m' l':=⟨cw,by omega,by omega,n2⟩;have kU:rM (s++s') (Sp.bZ m m') (l+l'):=⟨tn,by rw [cP];omega,by rw [cP];omega,by rw [cP];omega⟩;have kM:rM s m (l+1):=⟨Pt,by omega,by omega,by omega⟩;obtain ⟨x,KF,zi⟩:=Wh s m l z hz hv;obtain ⟨y,X1,CE⟩:=Wh s' m' l' z' wb cw
 obtain ⟨S,M,K,YY,kS,eS⟩:=y9v hv cw (by omega) (by omega) (by omega) (by omega) n1 n2 zi CE hP;have p1:=Fl k1 hP;have p2:=Fl k2 hQ;have p3:=Fl kU (hU.congr fun e=>(eU e).symm);have p4:=Fl kM (hT.congr fun e=>(eM e).symm);have p5:=Fl kS (hR.congr fun e=>(eS e).symm);have hF:=yux;have eqU:=Np U (by omega);have eqT:=Np T (by omega);have eqR:=Np R (by omega);rw [<-em] at p4
 clear tn eU Pt eM kU kM kS eS k1 k2 zi CE hU hT hR hP hQ YV cu SG BG BR fU fP hv cw v1 v2 S1 S2 tT Rb B1 B2;generalize (s++s')=su at*;generalize (Sp.bZ m m')=mu at*;generalize mS=F at*;refine Fn.aG [.tmp 8] Tryz.func5 rfl rfl (by decide) (by simp [Tryz.ntmps5]) ?_;rw [Tryz.ntmps5]
 repeat' (first|omega|(first|apply ah|(refine ba.intro (id:=9) Wx Ww (by decide+kernel) mixed ?_)|(refine ba.bR (id:=9) (Wv) (by decide+kernel) mixed ?_)|(refine ba.intro (id:=14) [[],[],[],[125,126,127],[124,126],[124,125],[124],[],[],[]] [[],[],[],[],[3],[3,4],[3],[],[],[]] (by decide+kernel) mixed ?_)|(refine ba.bR (id:=14) (Wu) (by decide+kernel) mixed ?_)|(refine ba.intro (id:=16) Wt Ws (by decide+kernel) mixed ?_)|(refine ba.intro (id:=18) [[],[],[],[],[],[],[155,156,157],[154,156],[154,155],[154],[],[],[]] [[],[],[],[],[],[],[],[6],[6,7],[6],[],[],[]] (by decide+kernel) mixed ?_)|(refine ba.bR (id:=18) (Wr) (by decide+kernel) mixed ?_)|skip);simp only [go_sem,sevalprocAttr,b1,b2,b3,b4,b5,b6,eG,↓reduceIte,reduceCtorEq,Wx,Ww,Wv,Wu,Wt,Ws,Wr]|(refine ⟨aL.fn (r:=?_) rfl ?_ ?_⟩;rotate_left;assumption)|(refine ⟨bS.fn (r:=?_) rfl ?_ ?_⟩;rotate_left;assumption)|apply ag<;>(intro h_;(try simp only [h_]);revert h_)|apply zzL|with_reducible intro h_|trivial|simp only [go_sem,ai];omega)
 all_goals first
  |exact Kb _ _ ‹_›
  |exact bE.refl _
  |(rw [pU];omega)
end Go.Proofs.YtjpbeacamoijhaaGreatDoor
