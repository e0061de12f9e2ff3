/- The reference of layer 1: valid diagrams. -/
import Derived.Test.YtbblgobamoabkaaGreatDoorRf3
import Derived.Test.YtbblgobamoabkaaGreatDoorZve
import Derived.Test.YtbblgobamoabkaaGreatDoorZb
set_option linter.unusedSimpArgs false
set_option linter.unusedVariables false
namespace Go.Proofs.YtbblgobamoabkaaGreatDoor
open Go Go.RowKit
set_option maxRecDepth 100000
set_option maxHeartbeats 8000000
def yzm:List (List Nat):=[[],[],[],[71,72],[70],[70],[],[],[],[77],[76],[],[],[],[83,86],[83,86],[81,82,86],[86],[86],[81,82,83,84,85],[],[],[],[92,94,95,96],[92,94,95,96],[90,91,94,95,96],[94,95,96],[90,91,92,93,96],[90,91,92,93,96],[90,91,92,93,94,95],[],[],[]]
def yzn:List (List Nat):=[[],[],[],[],[3],[3],[],[],[],[],[9],[],[],[],[],[],[14,15],[],[],[14,15,16,17,18],[],[],[],[],[],[23,24],[],[23,24,25,26],[23,24,25,26],[23,24,25,26,27,28],[],[],[]]
def cntL (lab:List Int) (ls:List (List Int)) (c:Int):Nat:=ls.countP fun l=>lab.getD (l.getD 0 0/4).toNat 0==c
theorem yvo (m lab:List Int) (c:Int):cntL lab (lstR (fun h=>orbF (yah m) m.length h) (fl m) m.length) c=cntF m lab m.length c:=by
 unfold cntL lstR cntF
 rw [List.countP_map,List.countP_filter]
 refine List.countP_congr fun h hh=>?_
 have e:(((orbF (yah m) m.length (h:Int)).getD 0 0)/4).toNat=h/4:=by
  unfold orbF;simp only [List.getD_cons_zero];omega
 simp only [Function.comp,e]
 cases fl m h<;>simp
theorem yzo {lab:List Int} {ls:List (List Int)} {c:Int} {i:Nat} (h:i<ls.length):cntL lab (ls.take (i+1)) c=cntL lab (ls.take i) c+if lab.getD ((ls.getD i []).getD 0 0/4).toNat 0=c then 1 else 0:=by
 unfold cntL
 rw [List.take_succ_eq_append_getElem h,List.countP_append]
 simp [List.getD_eq_getElem?_getD,h,List.countP_cons]
theorem y57 (lab:List Int) (ls:List (List Int)) (c:Int):cntL lab ls c<=ls.length:=List.countP_le_length
theorem y58 (l:List Int) (n:Nat) (c:Int):cntV l n c<=n:=by
 have:=List.countP_le_length (p:=fun c'=>l.getD c' 0==c) (l:=List.range n);simpa [cntV] using this
def sphK (m:List Int) (n k:Nat):Prop:= ∀c,c<k->(rlP m n n).getD c 0=c->cntF m (rlP m n n) (4*n) c=cntV (rlP m n n) n c+2
theorem yzp {m:List Int} {n k:Nat} (h:sphK m n k) (hx:(rlP m n n).getD k 0=k->cntF m (rlP m n n) (4*n) k=cntV (rlP m n n) n k+2):sphK m n (k+1):=fun c hc=>by
 rcases Nat.lt_or_ge c k with g|g
 ·exact h c g
 ·obtain rfl:c=k:=by omega
  exact hx
theorem vrF {s m:List Int} {L:Int} (h:ycb s m L=true) (hn: ¬sphK m s.length s.length):false=yap s m L:=by
 rw [ygk];unfold ygj;rw [h]
 cases e:sphR m s.length with
 |false=>rfl
 |true=>exact absurd (yh5.1 e) hn
theorem vrT {s m:List Int} {L:Int} (h:ycb s m L=true) (hn:sphK m s.length s.length):true=yap s m L:=by
 rw [ygk];unfold ygj;rw [h,yh5.2 hn];rfl
theorem yzq (s m:List Int) (L:Int):Fn Tryz.prog 11 [dgA s m L] (.bool (yap s m L)):=by
 refine Fn.intro [.tmp 2] Tryz.func11 rfl rfl (by decide) (by simp [Tryz.ntmps11]) ?_;rw [Tryz.ntmps11]
 repeat' (first|omega|(try apply yaa);simp only [go_sem,sevalprocAttr]|apply yab<;>(intro h_;(try simp only [h_]);revert h_)|apply And.intro|with_reducible intro h_|trivial|simp only [go_sem,la2];omega)
 all_goals first|exact vbF (by omega)|skip
 refine yal.intro (fun n fr H=> ∃k:Nat,k<=s.length/\n=s.length-k/\ycz s k/\fr=[(4,I k),(3,I s.length),(1, .ptr 0 0)]/\H=[(0, .cells 24 (.lst [roI s,roI m,I L]))]) ?_ ?_
 ·refine ⟨_,_,_,?_,0,by omega,rfl,(fun i hi=>by omega),rfl,rfl⟩
  refine Wk.sub ?_ ?_<;>simp only [go_sem,sevalprocAttr]
 rintro n fr H ⟨k,hk,rfl,hso,rfl,rfl⟩
 repeat' (first|omega|(try apply yaa);simp only [go_sem,sevalprocAttr]|apply yab<;>(intro h_;(try simp only [h_]);revert h_)|apply And.intro|with_reducible intro h_|trivial|simp only [go_sem,la2];omega)
 all_goals first
  |exact vbF fun hv=>by have:=hv.2.2.2.2.1 k (by omega);omega
  |(refine ⟨_,_,_,?_,?_,⟨k+1,by omega,rfl,ygg hso (by omega),rfl,rfl⟩⟩
    ·omega
    ·refine Wk.sub ?_ ?_<;>simp only [go_sem,sevalprocAttr])
  |skip
 obtain rfl:k=s.length:=by omega
 refine yal.intro (fun n fr H=> ∃k:Nat,k<=m.length/\n=m.length-k/\ydg s m k/\fr=[(5,I k),(3,I s.length),(1, .ptr 0 0)]/\H=[(0, .cells 24 (.lst [roI s,roI m,I L]))]) ?_ ?_
 ·refine ⟨_,_,_,?_,0,by omega,rfl,(fun i hi=>by omega),rfl,rfl⟩
  refine Wk.sub ?_ ?_<;>simp only [go_sem,sevalprocAttr]
 rintro n fr H ⟨h,hh,rfl,hmo,rfl,rfl⟩
 repeat' (first|omega|(first|apply yaa|(refine yac.intro (id:=13) yzm yzn (by decide+kernel) mixed ?_)|skip);simp only [go_sem,sevalprocAttr,↓reduceIte,reduceCtorEq,yzm,yzn]|apply yab<;>(intro h_;(try simp only [h_]);revert h_)|apply And.intro|with_reducible intro h_|trivial|simp only [go_sem,la2];omega)
 all_goals first|exact vbF fun hv=>by have:=hv.2.2.2.2.2 h (by omega);omega|skip
 ·have h4:m.getD h 0<4*s.length:=by assumption
  refine ⟨yag.fn rfl (yj5 s h (by omega) (by omega) (by omega)) ?_⟩
  repeat' (first|omega|(try apply yaa);simp only [go_sem,sevalprocAttr]|apply yab<;>(intro h_;(try simp only [h_]);revert h_)|apply And.intro|with_reducible intro h_|trivial|simp only [go_sem,la2];omega)
  refine ⟨yag.fn rfl (yj5 s (m.getD h 0) (by assumption) h4 (by omega)) ?_⟩
  repeat' (first|omega|(try apply yaa);simp only [go_sem,sevalprocAttr]|apply yab<;>(intro h_;(try simp only [h_]);revert h_)|apply And.intro|with_reducible intro h_|trivial|simp only [go_sem,la2];omega)
  all_goals first
   |exact vbF fun hv=>by have:=hv.2.2.2.2.2 h (by omega);simp_all
   |(refine ⟨_,_,_,?_,?_,⟨h+1,by omega,rfl,yiw hmo ⟨by assumption,h4,by assumption,by assumption,by assumption⟩,rfl,rfl⟩⟩
     ·omega
     ·refine Wk.sub ?_ ?_<;>simp only [go_sem,sevalprocAttr])
 ·have hm:m.length=4*s.length:=by omega
  obtain rfl:h=4*s.length:=by omega
  have hmk:yci m s.length:=⟨hm,fun i hi=>⟨(hmo i hi).1,(hmo i hi).2.1⟩⟩
  have hpb:ycb s m L=true:=by unfold ycb;exact decide_eq_true ⟨by omega,hm,by assumption,by assumption,hso,hmo⟩
  refine ⟨yad.fn rfl (yzk m s.length (by omega) hmk) ?_⟩
  repeat' (first|omega|(try apply yaa);simp only [go_sem,sevalprocAttr]|apply yab<;>(intro h_;(try simp only [h_]);revert h_)|apply And.intro|with_reducible intro h_|trivial|simp only [go_sem,la2];omega)
  refine ⟨yad.fn rfl (yzl m s.length (by omega) hm (fun i hi=>hmk.2 i (by omega))) ?_⟩
  repeat' (first|omega|(try apply yaa);simp only [go_sem,sevalprocAttr]|apply yab<;>(intro h_;(try simp only [h_]);revert h_)|apply And.intro|with_reducible intro h_|trivial|simp only [go_sem,la2];omega)
  have hll:=ynn m s.length s.length
  have hfl: ∀l∈lstR (fun h=>orbF (yah m) m.length h) (fl m) m.length,0<l.length/\0<=l.getD 0 0/\l.getD 0 0<4*s.length:=fun l hl=>by
   unfold lstR at hl
   obtain ⟨x,hx,rfl⟩:=List.mem_map.1 hl
   have hx2:=List.mem_range.1 (List.mem_filter.1 hx).1
   unfold orbF;simp;omega
  have hcf:=fun c:Int=>yvo m (rlP m s.length s.length) c
  have hfn:(lstR (fun h=>orbF (yah m) m.length h) (fl m) m.length).length<=m.length:=by
   have:=List.length_filter_le (fl m) (List.range m.length)
   simp only [lstR,List.length_map];simp only [List.length_range] at this;exact this
  generalize lstR (fun h=>orbF (yah m) m.length h) (fl m) m.length=fs at*
  have hsk:sphK m s.length 0:=fun c hc=>by omega
  have hnot: ∀c:Nat,c<s.length->(rlP m s.length s.length).getD c 0=c->cntL (rlP m s.length s.length) fs c≠cntV (rlP m s.length s.length) s.length c+2->false=yap s m L:=fun c hc h1 h2=>vrF hpb fun hv=>h2 (by rw [hcf,hm];exact hv c hc h1)
  have hyes: ∀c:Nat,cntL (rlP m s.length s.length) fs c=cntV (rlP m s.length s.length) s.length c+2->cntF m (rlP m s.length s.length) (4*s.length) c=cntV (rlP m s.length s.length) s.length c+2:=fun c h2=>by rw [←h2,hcf,hm]
  refine yal.intro (fun n fr H=> ∃c:Nat,c<=s.length/\n=s.length-c/\sphK m s.length c/\fr=[(9,I c),(8,roLL fs),(7,roI (rlP m s.length s.length)),(3,I s.length)]/\H=[]) ?_ ?_
  ·refine ⟨_,_,_,?_,0,by omega,rfl,hsk,rfl,rfl⟩
   refine Wk.sub ?_ ?_<;>simp only [go_sem,sevalprocAttr]
  rintro n fr H ⟨c,hc,rfl,hsp,rfl,rfl⟩
  have hsu:=yzp hsp
  have hno:=hnot c
  have hye:=hyes c
  clear hnot hyes hcf hsk
  by_cases hcl:c<s.length
  ·have bc:decide ((c:Int)<s.length)=true:=by simp;omega
   generalize hlab:rlP m s.length s.length=lab at*
   by_cases hlc:lab.getD c 0=c
   ·have bl:(lab.getD c 0 !=(c:Int))=false:=by rw [hlc];simp
    repeat' (first|omega|(try apply yaa);simp only [go_sem,sevalprocAttr,bc,bl]|apply yab<;>(intro h_;(try simp only [h_]);revert h_)|apply And.intro|with_reducible intro h_|trivial|simp only [go_sem,la2];omega)
    refine yal.intro (fun n fr H=> ∃b:Nat,b<=s.length/\n=s.length-b/\fr=[(12,I b),(10,I (cntV lab b c)),(11,I 0),(9,I c),(8,roLL fs),(7,roI lab),(3,I s.length)]/\H=[]) ?_ ?_
    ·refine ⟨_,_,_,?_,0,by omega,rfl,rfl,rfl⟩
     refine Wk.sub ?_ ?_<;>simp only [go_sem,sevalprocAttr]
     all_goals simp [cntV]
    rintro n fr H ⟨b,hb,rfl,rfl,rfl⟩
    have hcv:=y58 lab b c
    by_cases hbl:b<s.length
    ·have bb:decide ((b:Int)<s.length)=true:=by simp;omega
     have es:=yn3 lab b c
     by_cases hbe:lab.getD b 0=c
     ·have bq:(lab.getD b 0==(c:Int))=true:=by rw [hbe];simp
      rw [if_pos hbe] at es
      repeat' (first|omega|(try apply yaa);simp only [go_sem,sevalprocAttr,bb,bq]|apply yab<;>(intro h_;(try simp only [h_]);revert h_)|apply And.intro|with_reducible intro h_|trivial|simp only [go_sem,la2];omega)
      refine ⟨_,_,_,?_,?_,⟨b+1,by omega,rfl,rfl,rfl⟩⟩
      ·omega
      ·rw [es]
       refine Wk.sub ?_ ?_<;>simp only [go_sem,sevalprocAttr]
       all_goals simp
     ·have bq:(lab.getD b 0==(c:Int))=false:=by simpa using hbe
      rw [if_neg hbe] at es
      repeat' (first|omega|(try apply yaa);simp only [go_sem,sevalprocAttr,bb,bq]|apply yab<;>(intro h_;(try simp only [h_]);revert h_)|apply And.intro|with_reducible intro h_|trivial|simp only [go_sem,la2];omega)
      refine ⟨_,_,_,?_,?_,⟨b+1,by omega,rfl,rfl,rfl⟩⟩
      ·omega
      ·rw [es]
       refine Wk.sub ?_ ?_<;>simp only [go_sem,sevalprocAttr]
    ·obtain rfl:b=s.length:=by omega
     have bb:decide ((s.length:Int)<s.length)=false:=by simp
     repeat' (first|omega|(try apply yaa);simp only [go_sem,sevalprocAttr,bb]|apply yab<;>(intro h_;(try simp only [h_]);revert h_)|apply And.intro|with_reducible intro h_|trivial|simp only [go_sem,la2];omega)
     refine yal.intro (fun n fr H=> ∃i:Nat,i<=fs.length/\n=fs.length-i/\fr=[(13,I i),(10,I (cntV lab s.length c)),(11,I (cntL lab (fs.take i) c)),(9,I c),(8,roLL fs),(7,roI lab),(3,I s.length)]/\H=[]) ?_ ?_
     ·refine ⟨_,_,_,?_,0,by omega,rfl,rfl,rfl⟩
      refine Wk.sub ?_ ?_<;>simp only [go_sem,sevalprocAttr]
      all_goals simp [cntL]
     rintro n fr H ⟨i,hi,rfl,rfl,rfl⟩
     have hcl2:=y57 lab (fs.take i) c
     have htl:(fs.take i).length<=i:=by simp;omega
     by_cases hil:i<fs.length
     ·have bi:decide ((i:Int)<fs.length)=true:=by simp;omega
      have hg:=ypp fs i hil
      have hm1:=hfl (fs.getD i []) (by simp [hil])
      have et:=yzo (lab:=lab) (c:=c) hil
      have ed:((fs.getD i []).getD 0 0).tdiv 4=(fs.getD i []).getD 0 0/4:=ycc hm1.2.1
      by_cases hbe:lab.getD ((fs.getD i []).getD 0 0/4).toNat 0=c
      ·have bq:(lab.getD ((fs.getD i []).getD 0 0/4).toNat 0==(c:Int))=true:=by rw [hbe];simp
       rw [if_pos hbe] at et
       repeat' (first|omega|(try apply yaa);simp only [go_sem,sevalprocAttr,bi,hg,ed,bq]|apply yab<;>(intro h_;(try simp only [h_]);revert h_)|apply And.intro|with_reducible intro h_|trivial|simp only [go_sem,la2];omega)
       refine ⟨_,_,_,?_,?_,⟨i+1,by omega,rfl,rfl,rfl⟩⟩
       ·omega
       ·rw [et]
        refine Wk.sub ?_ ?_<;>simp only [go_sem,sevalprocAttr]
        all_goals simp
      ·have bq:(lab.getD ((fs.getD i []).getD 0 0/4).toNat 0==(c:Int))=false:=by simpa using hbe
       rw [if_neg hbe] at et
       repeat' (first|omega|(try apply yaa);simp only [go_sem,sevalprocAttr,bi,hg,ed,bq]|apply yab<;>(intro h_;(try simp only [h_]);revert h_)|apply And.intro|with_reducible intro h_|trivial|simp only [go_sem,la2];omega)
       refine ⟨_,_,_,?_,?_,⟨i+1,by omega,rfl,rfl,rfl⟩⟩
       ·omega
       ·rw [et]
        refine Wk.sub ?_ ?_<;>simp only [go_sem,sevalprocAttr]
     ·obtain rfl:i=fs.length:=by omega
      have bi:decide ((fs.length:Int)<fs.length)=false:=by simp
      rw [List.take_length] at*
      repeat' (first|omega|(try apply yaa);simp only [go_sem,sevalprocAttr,bi]|apply yab<;>(intro h_;(try simp only [h_]);revert h_)|apply And.intro|with_reducible intro h_|trivial|simp only [go_sem,la2];omega)
      all_goals first
       |exact hno hcl hlc (by omega)
       |(refine ⟨_,_,_,?_,?_,⟨c+1,by omega,rfl,hsu (fun _=>hye (by omega)),rfl,rfl⟩⟩
         ·omega
         ·refine Wk.sub ?_ ?_<;>simp only [go_sem,sevalprocAttr])
   ·have bl:(lab.getD c 0 !=(c:Int))=true:=by simpa using hlc
    repeat' (first|omega|(try apply yaa);simp only [go_sem,sevalprocAttr,bc,bl]|apply yab<;>(intro h_;(try simp only [h_]);revert h_)|apply And.intro|with_reducible intro h_|trivial|simp only [go_sem,la2];omega)
    refine ⟨_,_,_,?_,?_,⟨c+1,by omega,rfl,hsu (fun q=>absurd q hlc),rfl,rfl⟩⟩
    ·omega
    ·refine Wk.sub ?_ ?_<;>simp only [go_sem,sevalprocAttr]
  ·obtain rfl:c=s.length:=by omega
   have bc:decide ((s.length:Int)<s.length)=false:=by simp
   repeat' (first|omega|(try apply yaa);simp only [go_sem,sevalprocAttr,bc]|apply yab<;>(intro h_;(try simp only [h_]);revert h_)|apply And.intro|with_reducible intro h_|trivial|simp only [go_sem,la2];omega)
   exact vrT hpb hsp
end Go.Proofs.YtbblgobamoabkaaGreatDoor
set_option linter.unusedSimpArgs false
set_option linter.unusedVariables false
namespace Go.Proofs.YtbblgobamoabkaaGreatDoor
open Go Go.RowKit
set_option maxRecDepth 100000
set_option maxHeartbeats 8000000
theorem yms (s m:List Int) (L:Int) (n h:Nat) (hn:n<=1000) (hml:m.length=4*n) (hm: ∀i,i<m.length->0<=m.getD i 0/\m.getD i 0<4*n) (hh:h<m.length):Fn Tryz.prog 102 [dgA s m L,I h] (roI (orbF (yae m) m.length h)):=by
 have hnx: ∀g:Nat,g<m.length->Fn Tryz.prog 116 [I (m.getD g 0),I 2] (I (yae m g)):=fun g hg=>by
  have:=hm g hg
  exact yq9 _ _ (by omega) (by omega)
 have hrg: ∀g:Nat,g<m.length->0<=yae m g/\yae m g<4*n:=fun g hg=>yd3 (hm g hg).1 (hm g hg).2
 have hbig: ∀g:Nat,g<m.length->(g:Int)<m.length:=fun g hg=>by omega
 have hh':=hnx h hh
 refine Fn.intro [.tmp 4] Tryz.func102 rfl rfl (by decide) (by simp [Tryz.ntmps102]) ?_;rw [Tryz.ntmps102]
 repeat' (first|omega|(try apply yaa);simp only [go_sem,sevalprocAttr]|apply yab<;>(intro h_;(try simp only [h_]);revert h_)|apply And.intro|with_reducible intro h_|trivial|simp only [go_sem,la2];omega)
 refine ⟨yad.fn rfl hh' ?_⟩
 repeat' (first|omega|(try apply yaa);simp only [go_sem,sevalprocAttr]|apply yab<;>(intro h_;(try simp only [h_]);revert h_)|apply And.intro|with_reducible intro h_|trivial|simp only [go_sem,la2];omega)
 refine yal.intro (fun k fr H=> ∃(acc:List Int) (g:Nat),g<m.length/\0<acc.length/\acc.length+k=m.length+2/\acc++orbG (yae m) h (m.length+1-acc.length) g=orbF (yae m) m.length h/\fr=[(6,I g),(5, .sl 1 1 0 acc.length),(2, .ptr 0 0),(1,I h)]/\H=[(1, .cells 3 (.ints acc)),(0, .cells 24 (.lst [roI s,roI m,I L]))]) ?_ ?_
 ·have h2:=hrg h hh
  refine ⟨m.length+1,_,_,?_,[(h:Int)],(yae m h).toNat,by omega,by simp,by simp;omega,?_,rfl,rfl⟩
  ·refine Wk.sub ?_ ?_<;>simp only [go_sem,sevalprocAttr]
   all_goals omega
  ·rw [Int.toNat_of_nonneg h2.1];simp [orbF]
 rintro k fr H ⟨acc,g,hg,ha,hk,hacc,rfl,rfl⟩
 have hg':=hnx g hg
 have hr:=hrg g hg
 have key:((g:Int)=h\/m.length<acc.length)->acc=orbF (yae m) m.length h:=fun hc=>by
  rw [←hacc]
  rcases hc with e|e
  ·have:orbG (yae m) h (m.length+1-acc.length) g=[]:=by
    cases m.length+1-acc.length with
    |zero=>rfl
    |succ f=>simp [orbG,e]
   rw [this,List.append_nil]
  ·rw [show m.length+1-acc.length=0 by omega];simp [orbG]
 repeat' (first|omega|(try apply yaa);simp only [go_sem,sevalprocAttr]|apply yab<;>(intro h_;(try simp only [h_]);revert h_)|apply And.intro|with_reducible intro h_|trivial|simp only [go_sem,la2];omega)
 ·refine ⟨yad.fn rfl hg' ?_⟩
  repeat' (first|omega|(try apply yaa);simp only [go_sem,sevalprocAttr]|apply yab<;>(intro h_;(try simp only [h_]);revert h_)|apply And.intro|with_reducible intro h_|trivial|simp only [go_sem,la2];omega)
  refine ⟨k-1,_,_,?_,?_,⟨acc++[(g:Int)],(yae m g).toNat,by omega,by simp,by simp;omega,?_,rfl,rfl⟩⟩
  ·omega
  ·refine Wk.sub ?_ ?_<;>simp only [go_sem,sevalprocAttr]
   all_goals omega
  ·rw [←hacc,Int.toNat_of_nonneg hr.1,show m.length+1-acc.length=(m.length+1-(acc++[(g:Int)]).length)+1 by simp;omega]
   rw [orbG,if_neg (by omega)];simp
 all_goals first
  |exact congrArg List.length (key (by omega))
  |(rw [List.take_length];exact key (by omega))
end Go.Proofs.YtbblgobamoabkaaGreatDoor
