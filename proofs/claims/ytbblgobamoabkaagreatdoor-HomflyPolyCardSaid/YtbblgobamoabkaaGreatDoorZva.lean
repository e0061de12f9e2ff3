/- Arrays of two and of three integers. -/
import Derived.Test.YtbblgobamoabkaaGreatDoorZc
import Derived.Test.YtbblgobamoabkaaGreatDoorZu
set_option linter.unusedSimpArgs false
set_option linter.unusedVariables false
namespace Go.Proofs.YtbblgobamoabkaaGreatDoor
open Go Go.RowKit
set_option maxRecDepth 100000
set_option maxHeartbeats 4000000
section
variable {P:Program} {N:Nat} {fr:Fr} {H:Hp} {o:Oper}
theorem VR.ints {w:World} {M:Nat->Prop} {ρ:Nat->Addr} {D:Nat->Prop} (l:List Int):VR w M ρ D (.agg (l.map (Value.int .i64)).toArray) (.agg (l.map I)):=by
 refine .agg _ _ (by simp) fun i v x hv hx=>?_
 simp only [List.getElem?_map] at hv hx
 cases hq:l[i]? with
 |none=>rw [hq] at hv;cases hv
 |some n=>rw [hq] at hv hx;cases hv;cases hx;exact .int _ _
theorem arr3 {α:Type} {a:Array α} (h:a.size=3): ∃x0 x1 x2,a= #[x0,x1,x2]:=by
 obtain ⟨l⟩:=a
 match l,h with
 |[x0,x1,x2],_=>exact ⟨x0,x1,x2,rfl⟩
theorem y4l (k:IntKind) (n:Int):(Value.int k n).cells= #[.int k n]:=rfl
theorem SpL.build3 {ops:Array Oper} {rr:List Oper} {K:Fr->Hp->Prop} {t e:Nat} {x0 x1 x2:Operand} {a b c:Int} (ho:o.op= .build t #[(0,x0),(1,x1),(2,x2)]) (hd:dok o.dst N=true) (htk:tk P t= .arr 3 e) (hsz:tsz P e=some 1) (hz:tze P t=some [I 0,I 0,I 0])
  (h0:evA fr x0=I a) (h1:evA fr x1=I b) (h2:evA fr x2=I c) (h:awL P N ops rr (fput fr o.dst (.agg [I a,I b,I c])) H K):SpL P N ops fr H K o rr:=by
 refine SpL.ofX ?_ ?_ ?_ ?_
 ·rw [ho];rfl
 ·rw [ho];simp only [quF,yi4,htk]
 ·rw [ho];rfl
 unfold awX;rw [ho]
 refine ⟨rfl,fun B w0 Mx w ρ ac hsim Q=>?_⟩
 have e0:=(h0▸hsim.ev x0).int_inv
 have e1:=(h1▸hsim.ev x1).int_inv
 have e2:=(h2▸hsim.ev x2).int_inv
 obtain ⟨i,zv,i1,i2,i3⟩:=ydk hz
 obtain ⟨z0,z1,z2,hzz⟩:=arr3 (a:=zv.cells) (by have:=congrArg List.length i3;simpa using this)
 have hrun:(execOp ac.eval o).run P w= .ok (.value (.agg #[.int .i64 a, .int .i64 b, .int .i64 c])) w:=by
  simp [execOp,ho,Instr.build,zeroValue,typeInfo,i1,i2,run_underlying (ydj htk),ya0 hsz,hzz,Instr.fill,e0,e1,e2,y4l]
 exact Oper.wp_value hrun ⟨ρ,_,_,h,hsim.put hd (VR.ints [a,b,c])⟩
end
end Go.Proofs.YtbblgobamoabkaaGreatDoor
namespace Go.Proofs.YtbblgobamoabkaaGreatDoor
open Go Go.RowKit
set_option maxRecDepth 100000
set_option maxHeartbeats 8000000
set_option linter.unusedVariables false
set_option linter.unusedSimpArgs false
theorem yon (b:Bool) (p:List (Int×Int)) (hp:p.length<=100000):Fn Tryz.prog 9 [bvP b p] (bvT p):=by
 have hc:=yal p
 refine Fn.introL [.tmp 2] Tryz.func9 rfl rfl (by decide) (by simp [Tryz.ntmps9]) ?_;rw [Tryz.ntmps9]
 repeat' (first|omega|(try apply yaa);simp only [go_sem,sevalprocAttr,hc]|apply yab<;>(intro h_;(try simp only [h_]);revert h_)|apply And.intro|with_reducible intro h_|trivial|simp only [go_sem,la2];omega)
 refine yaj.intro (fun n fr H=> ∃k:Nat,k<=p.length/\n=p.length-k/\fr=[(13,I k),(12,I p.length),(11,bvT p),(3, .sl 3 1 0 k)]/\
  H=[(1, .cells 43 (.lst (bvC (p.take k))))]) ?_ ?_
 ·refine ⟨_,_,_,Wk.sub ?_ ?_,0,by omega,rfl,rfl,rfl⟩
  ·simp only [go_sem,sevalprocAttr,yad]
  ·simp only [go_sem,sevalprocAttr,yad,List.take_zero,bvC]
   all_goals rfl
 rintro n fr H ⟨k,hk,rfl,rfl,rfl⟩
 have hl:(bvC (p.take k)).length=3*k:=by rw [yal,List.length_take];omega
 by_cases hkl:k<p.length
 ·have bk:decide ((k:Int)<p.length)=true:=by simp;omega
  obtain ⟨g0,g1,g2⟩:=ybs p k hkl
  have et:p.take (k+1)=p.take k++[p.getD k (0,0)]:=by rw [List.take_succ_eq_append_getElem hkl];simp [hkl]
  have es:bvC (p.take (k+1))=bvC (p.take k)++[I (bvA (p.getD k (0,0)).1),I (bvZ (p.getD k (0,0)).1),I (p.getD k (0,0)).2]:=by rw [et,ycz];rfl
  generalize bvA (p.getD k (0,0)).1=x at*
  generalize bvZ (p.getD k (0,0)).1=y at*
  generalize (p.getD k (0,0)).2=v at*
  repeat' (first|omega|(try apply yaa);simp only [go_sem,sevalprocAttr,bk,hc,g0,g1,g2,hl]|apply yab<;>(intro h_;(try simp only [h_]);revert h_)|apply And.intro|with_reducible intro h_|trivial|simp only [go_sem,la2];omega)
  refine SpL.build3 (a:=x) (b:=y) (c:=v) (e:=3) rfl rfl (by simp only [go_sem,sevalprocAttr]) (by simp only [go_sem,sevalprocAttr]) (by simp only [go_sem,sevalprocAttr]) rfl rfl rfl ?_
  repeat' (first|omega|(try apply yaa);simp only [go_sem,sevalprocAttr,hl]|apply yab<;>(intro h_;(try simp only [h_]);revert h_)|apply And.intro|with_reducible intro h_|trivial|simp only [go_sem,la2];omega)
  refine ⟨_,_,_,?_,Wk.sub ?_ ?_,k+1,by omega,rfl,rfl,rfl⟩
  ·omega
  ·simp only [go_sem,sevalprocAttr,yad]
  ·simp only [go_sem,sevalprocAttr,es,ycq,yad,List.all_append]
 ·obtain rfl:k=p.length:=by omega
  have bk:decide ((p.length:Int)<p.length)=false:=by simp
  rw [List.take_length] at hl⊢
  repeat' (first|omega|(try apply yaa);simp only [go_sem,sevalprocAttr,bk,hl]|apply yab<;>(intro h_;(try simp only [h_]);revert h_)|apply And.intro|with_reducible intro h_|trivial|simp only [go_sem,la2];omega)
  all_goals first
   |exact yfl _ _ ‹_›
   |exact LeA.of (by rw [ya8,List.take_of_length_le (by omega)])
end Go.Proofs.YtbblgobamoabkaaGreatDoor
set_option linter.unusedSimpArgs false
set_option linter.unusedVariables false
namespace Go.Proofs.YtbblgobamoabkaaGreatDoor
open Go Go.RowKit
set_option maxRecDepth 100000
set_option maxHeartbeats 8000000
def yy6:List (List Nat):=[[],[],[],[71,72],[70],[70],[],[],[],[77],[76],[],[],[],[83,86],[83,86],[81,82,86],[86],[86],[81,82,83,84,85],[],[],[],[92,94,95,96],[92,94,95,96],[90,91,94,95,96],[94,95,96],[90,91,92,93,96],[90,91,92,93,96],[90,91,92,93,94,95],[],[],[]]
def yy7:List (List Nat):=[[],[],[],[],[3],[3],[],[],[],[],[9],[],[],[],[],[],[14,15],[],[],[14,15,16,17,18],[],[],[],[],[],[23,24],[],[23,24,25,26],[23,24,25,26],[23,24,25,26,27,28],[],[],[]]
def cntL (lab:List Int) (ls:List (List Int)) (c:Int):Nat:=ls.countP fun l=>lab.getD (l.getD 0 0/4).toNat 0==c
theorem yvj (m lab:List Int) (c:Int):cntL lab (lstR (fun h=>orbF (yag m) m.length h) (fl m) m.length) c=cntF m lab m.length c:=by
 unfold cntL lstR cntF
 rw [List.countP_map,List.countP_filter]
 refine List.countP_congr fun h hh=>?_
 have e:(((orbF (yag m) m.length (h:Int)).getD 0 0)/4).toNat=h/4:=by
  unfold orbF;simp only [List.getD_cons_zero];omega
 simp only [Function.comp,e]
 cases fl m h<;>simp
theorem yy8 {lab:List Int} {ls:List (List Int)} {c:Int} {i:Nat} (h:i<ls.length):cntL lab (ls.take (i+1)) c=cntL lab (ls.take i) c+if lab.getD ((ls.getD i []).getD 0 0/4).toNat 0=c then 1 else 0:=by
 unfold cntL
 rw [List.take_succ_eq_append_getElem h,List.countP_append]
 simp [List.getD_eq_getElem?_getD,h,List.countP_cons]
theorem y4m (lab:List Int) (ls:List (List Int)) (c:Int):cntL lab ls c<=ls.length:=List.countP_le_length
theorem y4n (l:List Int) (n:Nat) (c:Int):cntV l n c<=n:=by
 have:=List.countP_le_length (p:=fun c'=>l.getD c' 0==c) (l:=List.range n);simpa [cntV] using this
def sphK (m:List Int) (n k:Nat):Prop:= ∀c,c<k->(rlP m n n).getD c 0=c->cntF m (rlP m n n) (4*n) c=cntV (rlP m n n) n c+2
theorem yy9 {m:List Int} {n k:Nat} (h:sphK m n k) (hx:(rlP m n n).getD k 0=k->cntF m (rlP m n n) (4*n) k=cntV (rlP m n n) n k+2):sphK m n (k+1):=fun c hc=>by
 rcases Nat.lt_or_ge c k with g|g
 ·exact h c g
 ·obtain rfl:c=k:=by omega
  exact hx
theorem vrF {s m:List Int} {L:Int} (h:ycc s m L=true) (hn: ¬sphK m s.length s.length):false=yap s m L:=by
 rw [ygr];unfold ygq;rw [h]
 cases e:sphR m s.length with
 |false=>rfl
 |true=>exact absurd (yii.1 e) hn
theorem vrT {s m:List Int} {L:Int} (h:ycc s m L=true) (hn:sphK m s.length s.length):true=yap s m L:=by
 rw [ygr];unfold ygq;rw [h,yii.2 hn];rfl
theorem yza (s m:List Int) (L:Int):Fn Tryz.prog 11 [dgA s m L] (.bool (yap s m L)):=by
 refine Fn.intro [.tmp 2] Tryz.func11 rfl rfl (by decide) (by simp [Tryz.ntmps11]) ?_;rw [Tryz.ntmps11]
 repeat' (first|omega|(try apply yaa);simp only [go_sem,sevalprocAttr]|apply yab<;>(intro h_;(try simp only [h_]);revert h_)|apply And.intro|with_reducible intro h_|trivial|simp only [go_sem,la2];omega)
 all_goals first|exact vbF (by omega)|skip
 refine yaj.intro (fun n fr H=> ∃k:Nat,k<=s.length/\n=s.length-k/\ycl s k/\fr=[(4,I k),(3,I s.length),(1, .ptr 0 0)]/\H=[(0, .cells 24 (.lst [roI s,roI m,I L]))]) ?_ ?_
 ·refine ⟨_,_,_,?_,0,by omega,rfl,(fun i hi=>by omega),rfl,rfl⟩
  refine Wk.sub ?_ ?_<;>simp only [go_sem,sevalprocAttr]
 rintro n fr H ⟨k,hk,rfl,hso,rfl,rfl⟩
 repeat' (first|omega|(try apply yaa);simp only [go_sem,sevalprocAttr]|apply yab<;>(intro h_;(try simp only [h_]);revert h_)|apply And.intro|with_reducible intro h_|trivial|simp only [go_sem,la2];omega)
 all_goals first
  |exact vbF fun hv=>by have:=hv.2.2.2.2.1 k (by omega);omega
  |(refine ⟨_,_,_,?_,?_,⟨k+1,by omega,rfl,ygn hso (by omega),rfl,rfl⟩⟩
    ·omega
    ·refine Wk.sub ?_ ?_<;>simp only [go_sem,sevalprocAttr])
  |skip
 obtain rfl:k=s.length:=by omega
 refine yaj.intro (fun n fr H=> ∃k:Nat,k<=m.length/\n=m.length-k/\ydd s m k/\fr=[(5,I k),(3,I s.length),(1, .ptr 0 0)]/\H=[(0, .cells 24 (.lst [roI s,roI m,I L]))]) ?_ ?_
 ·refine ⟨_,_,_,?_,0,by omega,rfl,(fun i hi=>by omega),rfl,rfl⟩
  refine Wk.sub ?_ ?_<;>simp only [go_sem,sevalprocAttr]
 rintro n fr H ⟨h,hh,rfl,hmo,rfl,rfl⟩
 repeat' (first|omega|(first|apply yaa|(refine yac.intro (id:=13) yy6 yy7 (by decide+kernel) mixed ?_)|skip);simp only [go_sem,sevalprocAttr,↓reduceIte,reduceCtorEq,yy6,yy7]|apply yab<;>(intro h_;(try simp only [h_]);revert h_)|apply And.intro|with_reducible intro h_|trivial|simp only [go_sem,la2];omega)
 all_goals first|exact vbF fun hv=>by have:=hv.2.2.2.2.2 h (by omega);omega|skip
 ·have h4:m.getD h 0<4*s.length:=by assumption
  refine ⟨yai.fn rfl (ykg s h (by omega) (by omega) (by omega)) ?_⟩
  repeat' (first|omega|(try apply yaa);simp only [go_sem,sevalprocAttr]|apply yab<;>(intro h_;(try simp only [h_]);revert h_)|apply And.intro|with_reducible intro h_|trivial|simp only [go_sem,la2];omega)
  refine ⟨yai.fn rfl (ykg s (m.getD h 0) (by assumption) h4 (by omega)) ?_⟩
  repeat' (first|omega|(try apply yaa);simp only [go_sem,sevalprocAttr]|apply yab<;>(intro h_;(try simp only [h_]);revert h_)|apply And.intro|with_reducible intro h_|trivial|simp only [go_sem,la2];omega)
  all_goals first
   |exact vbF fun hv=>by have:=hv.2.2.2.2.2 h (by omega);simp_all
   |(refine ⟨_,_,_,?_,?_,⟨h+1,by omega,rfl,yje hmo ⟨by assumption,h4,by assumption,by assumption,by assumption⟩,rfl,rfl⟩⟩
     ·omega
     ·refine Wk.sub ?_ ?_<;>simp only [go_sem,sevalprocAttr])
 ·have hm:m.length=4*s.length:=by omega
  obtain rfl:h=4*s.length:=by omega
  have hmk:ybn m s.length:=⟨hm,fun i hi=>⟨(hmo i hi).1,(hmo i hi).2.1⟩⟩
  have hpb:ycc s m L=true:=by unfold ycc;exact decide_eq_true ⟨by omega,hm,by assumption,by assumption,hso,hmo⟩
  refine ⟨yae.fn rfl (yyt m s.length (by omega) hmk) ?_⟩
  repeat' (first|omega|(try apply yaa);simp only [go_sem,sevalprocAttr]|apply yab<;>(intro h_;(try simp only [h_]);revert h_)|apply And.intro|with_reducible intro h_|trivial|simp only [go_sem,la2];omega)
  refine ⟨yae.fn rfl (yyu m s.length (by omega) hm (fun i hi=>hmk.2 i (by omega))) ?_⟩
  repeat' (first|omega|(try apply yaa);simp only [go_sem,sevalprocAttr]|apply yab<;>(intro h_;(try simp only [h_]);revert h_)|apply And.intro|with_reducible intro h_|trivial|simp only [go_sem,la2];omega)
  have hll:=ynn m s.length s.length
  have hfl: ∀l∈lstR (fun h=>orbF (yag m) m.length h) (fl m) m.length,0<l.length/\0<=l.getD 0 0/\l.getD 0 0<4*s.length:=fun l hl=>by
   unfold lstR at hl
   obtain ⟨x,hx,rfl⟩:=List.mem_map.1 hl
   have hx2:=List.mem_range.1 (List.mem_filter.1 hx).1
   unfold orbF;simp;omega
  have hcf:=fun c:Int=>yvj m (rlP m s.length s.length) c
  have hfn:(lstR (fun h=>orbF (yag m) m.length h) (fl m) m.length).length<=m.length:=by
   have:=List.length_filter_le (fl m) (List.range m.length)
   simp only [lstR,List.length_map];simp only [List.length_range] at this;exact this
  generalize lstR (fun h=>orbF (yag m) m.length h) (fl m) m.length=fs at*
  have hsk:sphK m s.length 0:=fun c hc=>by omega
  have hnot: ∀c:Nat,c<s.length->(rlP m s.length s.length).getD c 0=c->cntL (rlP m s.length s.length) fs c≠cntV (rlP m s.length s.length) s.length c+2->false=yap s m L:=fun c hc h1 h2=>vrF hpb fun hv=>h2 (by rw [hcf,hm];exact hv c hc h1)
  have hyes: ∀c:Nat,cntL (rlP m s.length s.length) fs c=cntV (rlP m s.length s.length) s.length c+2->cntF m (rlP m s.length s.length) (4*s.length) c=cntV (rlP m s.length s.length) s.length c+2:=fun c h2=>by rw [←h2,hcf,hm]
  refine yaj.intro (fun n fr H=> ∃c:Nat,c<=s.length/\n=s.length-c/\sphK m s.length c/\fr=[(9,I c),(8,roLL fs),(7,roI (rlP m s.length s.length)),(3,I s.length)]/\H=[]) ?_ ?_
  ·refine ⟨_,_,_,?_,0,by omega,rfl,hsk,rfl,rfl⟩
   refine Wk.sub ?_ ?_<;>simp only [go_sem,sevalprocAttr]
  rintro n fr H ⟨c,hc,rfl,hsp,rfl,rfl⟩
  have hsu:=yy9 hsp
  have hno:=hnot c
  have hye:=hyes c
  clear hnot hyes hcf hsk
  by_cases hcl:c<s.length
  ·have bc:decide ((c:Int)<s.length)=true:=by simp;omega
   generalize hlab:rlP m s.length s.length=lab at*
   by_cases hlc:lab.getD c 0=c
   ·have bl:(lab.getD c 0 !=(c:Int))=false:=by rw [hlc];simp
    repeat' (first|omega|(try apply yaa);simp only [go_sem,sevalprocAttr,bc,bl]|apply yab<;>(intro h_;(try simp only [h_]);revert h_)|apply And.intro|with_reducible intro h_|trivial|simp only [go_sem,la2];omega)
    refine yaj.intro (fun n fr H=> ∃b:Nat,b<=s.length/\n=s.length-b/\fr=[(12,I b),(10,I (cntV lab b c)),(11,I 0),(9,I c),(8,roLL fs),(7,roI lab),(3,I s.length)]/\H=[]) ?_ ?_
    ·refine ⟨_,_,_,?_,0,by omega,rfl,rfl,rfl⟩
     refine Wk.sub ?_ ?_<;>simp only [go_sem,sevalprocAttr]
     all_goals simp [cntV]
    rintro n fr H ⟨b,hb,rfl,rfl,rfl⟩
    have hcv:=y4n lab b c
    by_cases hbl:b<s.length
    ·have bb:decide ((b:Int)<s.length)=true:=by simp;omega
     have es:=yn3 lab b c
     by_cases hbe:lab.getD b 0=c
     ·have bq:(lab.getD b 0==(c:Int))=true:=by rw [hbe];simp
      rw [if_pos hbe] at es
      repeat' (first|omega|(try apply yaa);simp only [go_sem,sevalprocAttr,bb,bq]|apply yab<;>(intro h_;(try simp only [h_]);revert h_)|apply And.intro|with_reducible intro h_|trivial|simp only [go_sem,la2];omega)
      refine ⟨_,_,_,?_,?_,⟨b+1,by omega,rfl,rfl,rfl⟩⟩
      ·omega
      ·rw [es]
       refine Wk.sub ?_ ?_<;>simp only [go_sem,sevalprocAttr]
       all_goals simp
     ·have bq:(lab.getD b 0==(c:Int))=false:=by simpa using hbe
      rw [if_neg hbe] at es
      repeat' (first|omega|(try apply yaa);simp only [go_sem,sevalprocAttr,bb,bq]|apply yab<;>(intro h_;(try simp only [h_]);revert h_)|apply And.intro|with_reducible intro h_|trivial|simp only [go_sem,la2];omega)
      refine ⟨_,_,_,?_,?_,⟨b+1,by omega,rfl,rfl,rfl⟩⟩
      ·omega
      ·rw [es]
       refine Wk.sub ?_ ?_<;>simp only [go_sem,sevalprocAttr]
    ·obtain rfl:b=s.length:=by omega
     have bb:decide ((s.length:Int)<s.length)=false:=by simp
     repeat' (first|omega|(try apply yaa);simp only [go_sem,sevalprocAttr,bb]|apply yab<;>(intro h_;(try simp only [h_]);revert h_)|apply And.intro|with_reducible intro h_|trivial|simp only [go_sem,la2];omega)
     refine yaj.intro (fun n fr H=> ∃i:Nat,i<=fs.length/\n=fs.length-i/\fr=[(13,I i),(10,I (cntV lab s.length c)),(11,I (cntL lab (fs.take i) c)),(9,I c),(8,roLL fs),(7,roI lab),(3,I s.length)]/\H=[]) ?_ ?_
     ·refine ⟨_,_,_,?_,0,by omega,rfl,rfl,rfl⟩
      refine Wk.sub ?_ ?_<;>simp only [go_sem,sevalprocAttr]
      all_goals simp [cntL]
     rintro n fr H ⟨i,hi,rfl,rfl,rfl⟩
     have hcl2:=y4m lab (fs.take i) c
     have htl:(fs.take i).length<=i:=by simp;omega
     by_cases hil:i<fs.length
     ·have bi:decide ((i:Int)<fs.length)=true:=by simp;omega
      have hg:=ylc fs i hil
      have hm1:=hfl (fs.getD i []) (by simp [hil])
      have et:=yy8 (lab:=lab) (c:=c) hil
      have ed:((fs.getD i []).getD 0 0).tdiv 4=(fs.getD i []).getD 0 0/4:=ybe hm1.2.1
      by_cases hbe:lab.getD ((fs.getD i []).getD 0 0/4).toNat 0=c
      ·have bq:(lab.getD ((fs.getD i []).getD 0 0/4).toNat 0==(c:Int))=true:=by rw [hbe];simp
       rw [if_pos hbe] at et
       repeat' (first|omega|(try apply yaa);simp only [go_sem,sevalprocAttr,bi,hg,ed,bq]|apply yab<;>(intro h_;(try simp only [h_]);revert h_)|apply And.intro|with_reducible intro h_|trivial|simp only [go_sem,la2];omega)
       refine ⟨_,_,_,?_,?_,⟨i+1,by omega,rfl,rfl,rfl⟩⟩
       ·omega
       ·rw [et]
        refine Wk.sub ?_ ?_<;>simp only [go_sem,sevalprocAttr]
        all_goals simp
      ·have bq:(lab.getD ((fs.getD i []).getD 0 0/4).toNat 0==(c:Int))=false:=by simpa using hbe
       rw [if_neg hbe] at et
       repeat' (first|omega|(try apply yaa);simp only [go_sem,sevalprocAttr,bi,hg,ed,bq]|apply yab<;>(intro h_;(try simp only [h_]);revert h_)|apply And.intro|with_reducible intro h_|trivial|simp only [go_sem,la2];omega)
       refine ⟨_,_,_,?_,?_,⟨i+1,by omega,rfl,rfl,rfl⟩⟩
       ·omega
       ·rw [et]
        refine Wk.sub ?_ ?_<;>simp only [go_sem,sevalprocAttr]
     ·obtain rfl:i=fs.length:=by omega
      have bi:decide ((fs.length:Int)<fs.length)=false:=by simp
      rw [List.take_length] at*
      repeat' (first|omega|(try apply yaa);simp only [go_sem,sevalprocAttr,bi]|apply yab<;>(intro h_;(try simp only [h_]);revert h_)|apply And.intro|with_reducible intro h_|trivial|simp only [go_sem,la2];omega)
      all_goals first
       |exact hno hcl hlc (by omega)
       |(refine ⟨_,_,_,?_,?_,⟨c+1,by omega,rfl,hsu (fun _=>hye (by omega)),rfl,rfl⟩⟩
         ·omega
         ·refine Wk.sub ?_ ?_<;>simp only [go_sem,sevalprocAttr])
   ·have bl:(lab.getD c 0 !=(c:Int))=true:=by simpa using hlc
    repeat' (first|omega|(try apply yaa);simp only [go_sem,sevalprocAttr,bc,bl]|apply yab<;>(intro h_;(try simp only [h_]);revert h_)|apply And.intro|with_reducible intro h_|trivial|simp only [go_sem,la2];omega)
    refine ⟨_,_,_,?_,?_,⟨c+1,by omega,rfl,hsu (fun q=>absurd q hlc),rfl,rfl⟩⟩
    ·omega
    ·refine Wk.sub ?_ ?_<;>simp only [go_sem,sevalprocAttr]
  ·obtain rfl:c=s.length:=by omega
   have bc:decide ((s.length:Int)<s.length)=false:=by simp
   repeat' (first|omega|(try apply yaa);simp only [go_sem,sevalprocAttr,bc]|apply yab<;>(intro h_;(try simp only [h_]);revert h_)|apply And.intro|with_reducible intro h_|trivial|simp only [go_sem,la2];omega)
   exact vrT hpb hsp
end Go.Proofs.YtbblgobamoabkaaGreatDoor
