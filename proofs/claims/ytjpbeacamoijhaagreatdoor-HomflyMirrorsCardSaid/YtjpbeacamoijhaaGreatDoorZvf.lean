/- The reference of layer 1: valid diagrams. -/
import Derived.Test.YtjpbeacamoijhaaGreatDoorZve
import Derived.Test.YtjpbeacamoijhaaGreatDoorZb
set_option linter.unusedSimpArgs false
set_option linter.unusedVariables false
namespace Go.Proofs.YtjpbeacamoijhaaGreatDoor
open Go Go.RowKit
set_option maxRecDepth 100000
set_option maxHeartbeats 8000000
def UE:List (List Nat):=[[],[],[],[71,72],[70],[70],[],[],[],[77],[76],[],[],[],[83,86],[83,86],[81,82,86],[86],[86],[81,82,83,84,85],[],[],[],[92,94,95,96],[92,94,95,96],[90,91,94,95,96],[94,95,96],[90,91,92,93,96],[90,91,92,93,96],[90,91,92,93,94,95],[],[],[]]
def UD:List (List Nat):=[[],[],[],[],[3],[3],[],[],[],[],[9],[],[],[],[],[],[14,15],[],[],[14,15,16,17,18],[],[],[],[],[],[23,24],[],[23,24,25,26],[23,24,25,26],[23,24,25,26,27,28],[],[],[]]
def pC (lab:List Int) (ls:List (List Int)) (c:Int):Nat:=ls.countP fun l=>lab.getD (l.getD 0 0/4).toNat 0==c
theorem X4 (m lab:List Int) (c:Int):pC lab (cY (fun h=>af (bT m) m.length h) (fl m) m.length) c=iT m lab m.length c:=by
 unfold pC cY iT;rw [List.countP_map,List.countP_filter];refine List.countP_congr fun h hh=>?_;have e:(((af (bT m) m.length (h:Int)).getD 0 0)/4).toNat=h/4:=by
  unfold af;simp only [List.getD_cons_zero];omega
 simp only [Function.comp,e];cases fl m h<;>simp
theorem y2d {lab:List Int} {ls:List (List Int)} {c:Int} {i:Nat} (h:i<ls.length):pC lab (ls.take (i+1)) c=pC lab (ls.take i) c+if lab.getD ((ls.getD i []).getD 0 0/4).toNat 0=c then 1 else 0:=by
 unfold pC;rw [List.take_succ_eq_append_getElem h,List.countP_append];simp [List.getD_eq_getElem?_getD,h,List.countP_cons]
theorem ZC (lab:List Int) (ls:List (List Int)) (c:Int):pC lab ls c<=ls.length:=List.countP_le_length
theorem ZB (l:List Int) (n:Nat) (c:Int):dw l n c<=n:=by
 have:=List.countP_le_length (p:=fun c'=>l.getD c' 0==c) (l:=List.range n);simpa [dw] using this
def uG (m:List Int) (n k:Nat):Prop:= ∀c,c<k->(bP m n n).getD c 0=c->iT m (bP m n n) (4*n) c=dw (bP m n n) n c+2
theorem y2e {m:List Int} {n k:Nat} (h:uG m n k) (hx:(bP m n n).getD k 0=k->iT m (bP m n n) (4*n) k=dw (bP m n n) n k+2):uG m n (k+1):=fun c hc=>by
 rcases Nat.lt_or_ge c k with g|g
 ·exact h c g
 ·obtain rfl:c=k:=by omega
  exact hx
theorem vrF {s m:List Int} {L:Int} (h:sK s m L=true) (hn: ¬uG m s.length s.length):false=bI s m L:=by
 rw [Dk];unfold zU;rw [h];cases e:qf m s.length with
 |false=>rfl
 |true=>exact absurd (I4.1 e) hn
theorem vrT {s m:List Int} {L:Int} (h:sK s m L=true) (hn:uG m s.length s.length):true=bI s m L:=by
 rw [Dk];unfold zU;rw [h,I4.2 hn];rfl
theorem y2f (s m:List Int) (L:Int):Fn Tryz.prog 13 [dgA s m L] (.bool (bI s m L)):=by
 refine Fn.intro [.tmp 2] Tryz.func13 rfl rfl (by decide) (by simp [Tryz.ntmps13]) ?_;rw [Tryz.ntmps13]
 repeat' (first|omega|(try apply ah);simp only [go_sem,sevalprocAttr]|apply ag<;>(intro h_;(try simp only [h_]);revert h_)|apply And.intro|with_reducible intro h_|trivial|simp only [go_sem,ai];omega)
 all_goals first|exact tQ (by omega)|skip
 refine dn.intro (fun n fr H=> ∃k:Nat,k<=s.length/\n=s.length-k/\sL s k/\fr=[(4,I k),(3,I s.length),(1, .ptr 0 0)]/\H=[(0, .cells 24 (.lst [roI s,roI m,I L]))]) ?_ ?_
 ·refine ⟨_,_,_,?_,0,by omega,rfl,(fun i hi=>by omega),rfl,rfl⟩;refine Wk.sub ?_ ?_<;>simp only [go_sem,sevalprocAttr]
 rintro n fr H ⟨k,hk,rfl,oi,rfl,rfl⟩
 repeat' (first|omega|(try apply ah);simp only [go_sem,sevalprocAttr]|apply ag<;>(intro h_;(try simp only [h_]);revert h_)|apply And.intro|with_reducible intro h_|trivial|simp only [go_sem,ai];omega)
 all_goals first
  |exact tQ fun hv=>by have:=hv.2.2.2.2.1 k (by omega);omega
  |(refine ⟨_,_,_,?_,?_,⟨k+1,by omega,rfl,Mw oi (by omega),rfl,rfl⟩⟩
    ·omega
    ·refine Wk.sub ?_ ?_<;>simp only [go_sem,sevalprocAttr])
  |skip
 obtain rfl:k=s.length:=by omega
 refine dn.intro (fun n fr H=> ∃k:Nat,k<=m.length/\n=m.length-k/\yd s m k/\fr=[(5,I k),(3,I s.length),(1, .ptr 0 0)]/\H=[(0, .cells 24 (.lst [roI s,roI m,I L]))]) ?_ ?_
 ·refine ⟨_,_,_,?_,0,by omega,rfl,(fun i hi=>by omega),rfl,rfl⟩;refine Wk.sub ?_ ?_<;>simp only [go_sem,sevalprocAttr]
 rintro n fr H ⟨h,hh,rfl,zj,rfl,rfl⟩
 repeat' (first|omega|(first|apply ah|(refine bd.intro (id:=13) UE UD (by decide+kernel) mixed ?_)|skip);simp only [go_sem,sevalprocAttr,↓reduceIte,reduceCtorEq,UE,UD]|apply ag<;>(intro h_;(try simp only [h_]);revert h_)|apply And.intro|with_reducible intro h_|trivial|simp only [go_sem,ai];omega)
 all_goals first|exact tQ fun hv=>by have:=hv.2.2.2.2.2 h (by omega);omega|skip
 ·have h4:m.getD h 0<4*s.length:=by assumption
  refine ⟨c8.fn rfl (Ij s h (by omega) (by omega) (by omega)) ?_⟩
  repeat' (first|omega|(try apply ah);simp only [go_sem,sevalprocAttr]|apply ag<;>(intro h_;(try simp only [h_]);revert h_)|apply And.intro|with_reducible intro h_|trivial|simp only [go_sem,ai];omega)
  refine ⟨c8.fn rfl (Ij s (m.getD h 0) (by assumption) h4 (by omega)) ?_⟩
  repeat' (first|omega|(try apply ah);simp only [go_sem,sevalprocAttr]|apply ag<;>(intro h_;(try simp only [h_]);revert h_)|apply And.intro|with_reducible intro h_|trivial|simp only [go_sem,ai];omega)
  all_goals first
   |exact tQ fun hv=>by have:=hv.2.2.2.2.2 h (by omega);simp_all
   |(refine ⟨_,_,_,?_,?_,⟨h+1,by omega,rfl,TX zj ⟨by assumption,h4,by assumption,by assumption,by assumption⟩,rfl,rfl⟩⟩
     ·omega
     ·refine Wk.sub ?_ ?_<;>simp only [go_sem,sevalprocAttr])
 ·have hm:m.length=4*s.length:=by omega
  obtain rfl:h=4*s.length:=by omega
  have vL:pf m s.length:=⟨hm,fun i hi=>⟨(zj i hi).1,(zj i hi).2.1⟩⟩;have Wc:sK s m L=true:=by unfold sK;exact decide_eq_true ⟨by omega,hm,by assumption,by assumption,oi,zj⟩
  refine ⟨aO.fn rfl (y19 m s.length (by omega) vL) ?_⟩
  repeat' (first|omega|(try apply ah);simp only [go_sem,sevalprocAttr]|apply ag<;>(intro h_;(try simp only [h_]);revert h_)|apply And.intro|with_reducible intro h_|trivial|simp only [go_sem,ai];omega)
  refine ⟨aO.fn rfl (y2a m s.length (by omega) hm (fun i hi=>vL.2 i (by omega))) ?_⟩
  repeat' (first|omega|(try apply ah);simp only [go_sem,sevalprocAttr]|apply ag<;>(intro h_;(try simp only [h_]);revert h_)|apply And.intro|with_reducible intro h_|trivial|simp only [go_sem,ai];omega)
  have hll:=Lv m s.length s.length;have uh: ∀l∈cY (fun h=>af (bT m) m.length h) (fl m) m.length,0<l.length/\0<=l.getD 0 0/\l.getD 0 0<4*s.length:=fun l hl=>by
   unfold cY at hl;obtain ⟨x,hx,rfl⟩:=List.mem_map.1 hl;have BH:=List.mem_range.1 (List.mem_filter.1 hx).1;unfold af;simp;omega
  have OI:=fun c:Int=>X4 m (bP m s.length s.length) c;have hfn:(cY (fun h=>af (bT m) m.length h) (fl m) m.length).length<=m.length:=by
   have:=List.length_filter_le (fl m) (List.range m.length)
   simp only [cY,List.length_map];simp only [List.length_range] at this;exact this
  generalize cY (fun h=>af (bT m) m.length h) (fl m) m.length=fs at*;have V3:uG m s.length 0:=fun c hc=>by omega
  have px: ∀c:Nat,c<s.length->(bP m s.length s.length).getD c 0=c->pC (bP m s.length s.length) fs c≠dw (bP m s.length s.length) s.length c+2->false=bI s m L:=fun c hc h1 h2=>vrF Wc fun hv=>h2 (by rw [OI,hm];exact hv c hc h1)
  have FN: ∀c:Nat,pC (bP m s.length s.length) fs c=dw (bP m s.length s.length) s.length c+2->iT m (bP m s.length s.length) (4*s.length) c=dw (bP m s.length s.length) s.length c+2:=fun c h2=>by rw [←h2,OI,hm]
  refine dn.intro (fun n fr H=> ∃c:Nat,c<=s.length/\n=s.length-c/\uG m s.length c/\fr=[(9,I c),(8,qi fs),(7,roI (bP m s.length s.length)),(3,I s.length)]/\H=[]) ?_ ?_
  ·refine ⟨_,_,_,?_,0,by omega,rfl,V3,rfl,rfl⟩;refine Wk.sub ?_ ?_<;>simp only [go_sem,sevalprocAttr]
  rintro n fr H ⟨c,hc,rfl,gS,rfl,rfl⟩;have V1:=y2e gS;have iy:=px c;have hye:=FN c;clear px FN OI V3;by_cases aY:c<s.length
  ·have bc:decide ((c:Int)<s.length)=true:=by simp;omega
   generalize Gm:bP m s.length s.length=lab at*;by_cases wT:lab.getD c 0=c
   ·have bl:(lab.getD c 0 !=(c:Int))=false:=by rw [wT];simp
    repeat' (first|omega|(try apply ah);simp only [go_sem,sevalprocAttr,bc,bl]|apply ag<;>(intro h_;(try simp only [h_]);revert h_)|apply And.intro|with_reducible intro h_|trivial|simp only [go_sem,ai];omega)
    refine dn.intro (fun n fr H=> ∃b:Nat,b<=s.length/\n=s.length-b/\fr=[(12,I b),(10,I (dw lab b c)),(11,I 0),(9,I c),(8,qi fs),(7,roI lab),(3,I s.length)]/\H=[]) ?_ ?_
    ·refine ⟨_,_,_,?_,0,by omega,rfl,rfl,rfl⟩;refine Wk.sub ?_ ?_<;>simp only [go_sem,sevalprocAttr]
     all_goals simp [dw]
    rintro n fr H ⟨b,hb,rfl,rfl,rfl⟩;have qO:=ZB lab b c;by_cases GH:b<s.length
    ·have bb:decide ((b:Int)<s.length)=true:=by simp;omega
     have es:=SO lab b c;by_cases w9:lab.getD b 0=c
     ·have bq:(lab.getD b 0==(c:Int))=true:=by rw [w9];simp
      rw [if_pos w9] at es
      repeat' (first|omega|(try apply ah);simp only [go_sem,sevalprocAttr,bb,bq]|apply ag<;>(intro h_;(try simp only [h_]);revert h_)|apply And.intro|with_reducible intro h_|trivial|simp only [go_sem,ai];omega)
      refine ⟨_,_,_,?_,?_,⟨b+1,by omega,rfl,rfl,rfl⟩⟩
      ·omega
      ·rw [es];refine Wk.sub ?_ ?_<;>simp only [go_sem,sevalprocAttr]
       all_goals simp
     ·have bq:(lab.getD b 0==(c:Int))=false:=by simpa using w9
      rw [if_neg w9] at es
      repeat' (first|omega|(try apply ah);simp only [go_sem,sevalprocAttr,bb,bq]|apply ag<;>(intro h_;(try simp only [h_]);revert h_)|apply And.intro|with_reducible intro h_|trivial|simp only [go_sem,ai];omega)
      refine ⟨_,_,_,?_,?_,⟨b+1,by omega,rfl,rfl,rfl⟩⟩
      ·omega
      ·rw [es];refine Wk.sub ?_ ?_<;>simp only [go_sem,sevalprocAttr]
    ·obtain rfl:b=s.length:=by omega
     have bb:decide ((s.length:Int)<s.length)=false:=by simp
     repeat' (first|omega|(try apply ah);simp only [go_sem,sevalprocAttr,bb]|apply ag<;>(intro h_;(try simp only [h_]);revert h_)|apply And.intro|with_reducible intro h_|trivial|simp only [go_sem,ai];omega)
     refine dn.intro (fun n fr H=> ∃i:Nat,i<=fs.length/\n=fs.length-i/\fr=[(13,I i),(10,I (dw lab s.length c)),(11,I (pC lab (fs.take i) c)),(9,I c),(8,qi fs),(7,roI lab),(3,I s.length)]/\H=[]) ?_ ?_
     ·refine ⟨_,_,_,?_,0,by omega,rfl,rfl,rfl⟩;refine Wk.sub ?_ ?_<;>simp only [go_sem,sevalprocAttr]
      all_goals simp [pC]
     rintro n fr H ⟨i,hi,rfl,rfl,rfl⟩;have rH:=ZC lab (fs.take i) c;have F2:(fs.take i).length<=i:=by simp;omega
     by_cases pb:i<fs.length
     ·have bi:decide ((i:Int)<fs.length)=true:=by simp;omega
      have hg:=R6 fs i pb;have yy:=uh (fs.getD i []) (by simp [pb]);have et:=y2d (lab:=lab) (c:=c) pb;have ed:((fs.getD i []).getD 0 0).tdiv 4=(fs.getD i []).getD 0 0/4:=tN yy.2.1;by_cases w9:lab.getD ((fs.getD i []).getD 0 0/4).toNat 0=c
      ·have bq:(lab.getD ((fs.getD i []).getD 0 0/4).toNat 0==(c:Int))=true:=by rw [w9];simp
       rw [if_pos w9] at et
       repeat' (first|omega|(try apply ah);simp only [go_sem,sevalprocAttr,bi,hg,ed,bq]|apply ag<;>(intro h_;(try simp only [h_]);revert h_)|apply And.intro|with_reducible intro h_|trivial|simp only [go_sem,ai];omega)
       refine ⟨_,_,_,?_,?_,⟨i+1,by omega,rfl,rfl,rfl⟩⟩
       ·omega
       ·rw [et];refine Wk.sub ?_ ?_<;>simp only [go_sem,sevalprocAttr]
        all_goals simp
      ·have bq:(lab.getD ((fs.getD i []).getD 0 0/4).toNat 0==(c:Int))=false:=by simpa using w9
       rw [if_neg w9] at et
       repeat' (first|omega|(try apply ah);simp only [go_sem,sevalprocAttr,bi,hg,ed,bq]|apply ag<;>(intro h_;(try simp only [h_]);revert h_)|apply And.intro|with_reducible intro h_|trivial|simp only [go_sem,ai];omega)
       refine ⟨_,_,_,?_,?_,⟨i+1,by omega,rfl,rfl,rfl⟩⟩
       ·omega
       ·rw [et];refine Wk.sub ?_ ?_<;>simp only [go_sem,sevalprocAttr]
     ·obtain rfl:i=fs.length:=by omega
      have bi:decide ((fs.length:Int)<fs.length)=false:=by simp
      rw [List.take_length] at*
      repeat' (first|omega|(try apply ah);simp only [go_sem,sevalprocAttr,bi]|apply ag<;>(intro h_;(try simp only [h_]);revert h_)|apply And.intro|with_reducible intro h_|trivial|simp only [go_sem,ai];omega)
      all_goals first
       |exact iy aY wT (by omega)
       |(refine ⟨_,_,_,?_,?_,⟨c+1,by omega,rfl,V1 (fun _=>hye (by omega)),rfl,rfl⟩⟩
         ·omega
         ·refine Wk.sub ?_ ?_<;>simp only [go_sem,sevalprocAttr])
   ·have bl:(lab.getD c 0 !=(c:Int))=true:=by simpa using wT
    repeat' (first|omega|(try apply ah);simp only [go_sem,sevalprocAttr,bc,bl]|apply ag<;>(intro h_;(try simp only [h_]);revert h_)|apply And.intro|with_reducible intro h_|trivial|simp only [go_sem,ai];omega)
    refine ⟨_,_,_,?_,?_,⟨c+1,by omega,rfl,V1 (fun q=>absurd q wT),rfl,rfl⟩⟩
    ·omega
    ·refine Wk.sub ?_ ?_<;>simp only [go_sem,sevalprocAttr]
  ·obtain rfl:c=s.length:=by omega
   have bc:decide ((s.length:Int)<s.length)=false:=by simp
   repeat' (first|omega|(try apply ah);simp only [go_sem,sevalprocAttr,bc]|apply ag<;>(intro h_;(try simp only [h_]);revert h_)|apply And.intro|with_reducible intro h_|trivial|simp only [go_sem,ai];omega)
   exact vrT Wc gS
theorem Tj (s m:List Int) (L:Int) (n h:Nat) (hn:n<=1000) (iX:m.length=4*n) (hm: ∀i,i<m.length->0<=m.getD i 0/\m.getD i 0<4*n) (hh:h<m.length):Fn Tryz.prog 106 [dgA s m L,I h] (roI (af (aK m) m.length h)):=by
 have uT: ∀g:Nat,g<m.length->Fn Tryz.prog 148 [I (m.getD g 0),I 2] (I (aK m g)):=fun g hg=>by
  have:=hm g hg
  exact Rw _ _ (by omega) (by omega)
 have Gb: ∀g:Nat,g<m.length->0<=aK m g/\aK m g<4*n:=fun g hg=>EN (hm g hg).1 (hm g hg).2;have OM: ∀g:Nat,g<m.length->(g:Int)<m.length:=fun g hg=>by omega
 have Ot:=uT h hh;refine Fn.intro [.tmp 4] Tryz.func106 rfl rfl (by decide) (by simp [Tryz.ntmps106]) ?_;rw [Tryz.ntmps106]
 repeat' (first|omega|(try apply ah);simp only [go_sem,sevalprocAttr]|apply ag<;>(intro h_;(try simp only [h_]);revert h_)|apply And.intro|with_reducible intro h_|trivial|simp only [go_sem,ai];omega)
 refine ⟨aO.fn rfl Ot ?_⟩
 repeat' (first|omega|(try apply ah);simp only [go_sem,sevalprocAttr]|apply ag<;>(intro h_;(try simp only [h_]);revert h_)|apply And.intro|with_reducible intro h_|trivial|simp only [go_sem,ai];omega)
 refine dn.intro (fun k fr H=> ∃(acc:List Int) (g:Nat),g<m.length/\0<acc.length/\acc.length+k=m.length+2/\acc++gV (aK m) h (m.length+1-acc.length) g=af (aK m) m.length h/\fr=[(6,I g),(5, .sl 1 1 0 acc.length),(2, .ptr 0 0),(1,I h)]/\H=[(1, .cells 3 (.ints acc)),(0, .cells 24 (.lst [roI s,roI m,I L]))]) ?_ ?_
 ·have h2:=Gb h hh;refine ⟨m.length+1,_,_,?_,[(h:Int)],(aK m h).toNat,by omega,by simp,by simp;omega,?_,rfl,rfl⟩
  ·refine Wk.sub ?_ ?_<;>simp only [go_sem,sevalprocAttr]
   all_goals omega
  ·rw [Int.toNat_of_nonneg h2.1];simp [af]
 rintro k fr H ⟨acc,g,hg,ha,hk,rL,rfl,rfl⟩;have qx:=uT g hg;have hr:=Gb g hg;have key:((g:Int)=h\/m.length<acc.length)->acc=af (aK m) m.length h:=fun hc=>by
  rw [←rL];rcases hc with e|e
  ·have:gV (aK m) h (m.length+1-acc.length) g=[]:=by
    cases m.length+1-acc.length with
    |zero=>rfl
    |succ f=>simp [gV,e]
   rw [this,List.append_nil]
  ·rw [show m.length+1-acc.length=0 by omega];simp [gV]
 repeat' (first|omega|(try apply ah);simp only [go_sem,sevalprocAttr]|apply ag<;>(intro h_;(try simp only [h_]);revert h_)|apply And.intro|with_reducible intro h_|trivial|simp only [go_sem,ai];omega)
 ·refine ⟨aO.fn rfl qx ?_⟩
  repeat' (first|omega|(try apply ah);simp only [go_sem,sevalprocAttr]|apply ag<;>(intro h_;(try simp only [h_]);revert h_)|apply And.intro|with_reducible intro h_|trivial|simp only [go_sem,ai];omega)
  refine ⟨k-1,_,_,?_,?_,⟨acc++[(g:Int)],(aK m g).toNat,by omega,by simp,by simp;omega,?_,rfl,rfl⟩⟩
  ·omega
  ·refine Wk.sub ?_ ?_<;>simp only [go_sem,sevalprocAttr]
   all_goals omega
  ·rw [←rL,Int.toNat_of_nonneg hr.1,show m.length+1-acc.length=(m.length+1-(acc++[(g:Int)]).length)+1 by simp;omega];rw [gV,if_neg (by omega)];simp
 all_goals first
  |exact congrArg List.length (key (by omega))
  |(rw [List.take_length];exact key (by omega))
end Go.Proofs.YtjpbeacamoijhaaGreatDoor
