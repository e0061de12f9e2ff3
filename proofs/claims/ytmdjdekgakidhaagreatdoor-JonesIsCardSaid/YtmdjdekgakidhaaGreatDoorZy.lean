/- The reference of layer 1: valid diagrams. -/
import Derived.Test.YtmdjdekgakidhaaGreatDoorZx
import Derived.Test.YtmdjdekgakidhaaGreatDoorZv
import Derived.Test.YtmdjdekgakidhaaGreatDoorZw
set_option linter.unusedSimpArgs false
set_option linter.unusedVariables false
namespace Go.Proofs.YtmdjdekgakidhaaGreatDoor
open Go Go.RowKit
set_option maxRecDepth 100000
set_option maxHeartbeats 8000000
def Rl:List (List Nat):=[[],[],[],[71,72],[70],[70],[],[],[],[77],[76],[],[],[],[83,86],[83,86],[81,82,86],[86],[86],[81,82,83,84,85],[],[],[],[92,94,95,96],[92,94,95,96],[90,91,94,95,96],[94,95,96],[90,91,92,93,96],[90,91,92,93,96],[90,91,92,93,94,95],[],[],[]]
def Rk:List (List Nat):=[[],[],[],[],[3],[3],[],[],[],[],[9],[],[],[],[],[],[14,15],[],[],[14,15,16,17,18],[],[],[],[],[],[23,24],[],[23,24,25,26],[23,24,25,26],[23,24,25,26,27,28],[],[],[]]
def kh (lab:List Int) (ls:List (List Int)) (c:Int):Nat:=ls.countP fun l=>lab.getD (l.getD 0 0/4).toNat 0==c
theorem XD (m lab:List Int) (c:Int):kh lab (b7 (fun h=>ak (bJ m) m.length h) (fl m) m.length) c=eG m lab m.length c:=by
 unfold kh b7 eG;rw [List.countP_map,List.countP_filter];refine List.countP_congr fun h hh=>?_;have e:(((ak (bJ m) m.length (h:Int)).getD 0 0)/4).toNat=h/4:=by
  unfold ak;simp only [List.getD_cons_zero];omega
 simp only [Function.comp,e];cases fl m h<;>simp
theorem We {lab:List Int} {ls:List (List Int)} {c:Int} {i:Nat} (h:i<ls.length):kh lab (ls.take (i+1)) c=kh lab (ls.take i) c+if lab.getD ((ls.getD i []).getD 0 0/4).toNat 0=c then 1 else 0:=by
 unfold kh;rw [List.take_succ_eq_append_getElem h,List.countP_append];simp [zzB,h,List.countP_cons]
theorem Jl (lab:List Int) (ls:List (List Int)) (c:Int):kh lab ls c<=ls.length:=List.countP_le_length
theorem Jk (l:List Int) (n:Nat) (c:Int):cH l n c<=n:=by
 have:=List.countP_le_length (p:=fun c'=>l.getD c' 0==c) (l:=List.range n);simpa [cH] using this
def pf (m:List Int) (n k:Nat):Prop:= ∀c,c<k->(bB m n n).getD c 0=c->eG m (bB m n n) (4*n) c=cH (bB m n n) n c+2
theorem WG {m:List Int} {n k:Nat} (h:pf m n k) (hx:(bB m n n).getD k 0=k->eG m (bB m n n) (4*n) k=cH (bB m n n) n k+2):pf m n (k+1):=fun c hc=>by
 rcases Nat.lt_or_ge c k with g|g
 ·exact h c g
 ·obtain rfl:c=k:=by omega
  exact hx
theorem XL {s m:List Int} {L:Int} (h:qg s m L=true) (hn: ¬pf m s.length s.length):false=cX s m L:=by
 rw [HH];unfold zt;rw [h];cases e:nU m s.length with
 |false=>rfl
 |true=>exact absurd (Ee.1 e) hn
theorem XK {s m:List Int} {L:Int} (h:qg s m L=true) (hn:pf m s.length s.length):true=cX s m L:=by
 rw [HH];unfold zt;rw [h,Ee.2 hn];rfl
theorem WE (s m:List Int) (L:Int):Fn Tryz.prog 20 [dgA s m L] (.bool (cX s m L)):=by
 refine Fn.intro [.tmp 2] Tryz.func20 rfl rfl (by decide) (by simp [Tryz.ntmps20]) ?_;rw [Tryz.ntmps20]
 repeat' (first|omega|(try apply ag);simp only [go_sem,sevalprocAttr]|apply ae<;>(intro h_;(try simp only [h_]);revert h_)|apply And.intro|with_reducible intro h_|trivial|simp only [go_sem,ah];omega)
 all_goals first|exact oj (by omega)|skip
 refine aR.intro (fun n fr H=> ∃k:Nat,k<=s.length/\n=s.length-k/\oU s k/\fr=[(4,I k),(3,I s.length),(1, .ptr 0 0)]/\H=[(0, .cells 24 (.lst [roI s,roI m,I L]))]) ?_ ?_
 ·refine ⟨_,_,_,?_,0,by omega,rfl,(fun i hi=>by omega),rfl,rfl⟩;refine Wk.sub ?_ ?_<;>simp only [go_sem,sevalprocAttr]
 rintro n fr H ⟨k,hk,rfl,iG,rfl,rfl⟩
 repeat' (first|omega|(try apply ag);simp only [go_sem,sevalprocAttr]|apply ae<;>(intro h_;(try simp only [h_]);revert h_)|apply And.intro|with_reducible intro h_|trivial|simp only [go_sem,ah];omega)
 all_goals first
  |exact oj fun hv=>by have:=hv.2.2.2.2.1 k (by omega);omega
  |(refine ⟨_,_,_,?_,?_,⟨k+1,by omega,rfl,Ip iG (by omega),rfl,rfl⟩⟩
    ·omega
    ·refine Wk.sub ?_ ?_<;>simp only [go_sem,sevalprocAttr])
  |skip
 obtain rfl:k=s.length:=by omega
 refine aR.intro (fun n fr H=> ∃k:Nat,k<=m.length/\n=m.length-k/\sH s m k/\fr=[(5,I k),(3,I s.length),(1, .ptr 0 0)]/\H=[(0, .cells 24 (.lst [roI s,roI m,I L]))]) ?_ ?_
 ·refine ⟨_,_,_,?_,0,by omega,rfl,(fun i hi=>by omega),rfl,rfl⟩;refine Wk.sub ?_ ?_<;>simp only [go_sem,sevalprocAttr]
 rintro n fr H ⟨h,hh,rfl,tZ,rfl,rfl⟩
 repeat' (first|omega|(first|apply ag|(refine aj.intro (id:=13) Rl Rk (by decide+kernel) mixed ?_)|skip);simp only [go_sem,sevalprocAttr,↓reduceIte,reduceCtorEq,Rl,Rk]|apply ae<;>(intro h_;(try simp only [h_]);revert h_)|apply And.intro|with_reducible intro h_|trivial|simp only [go_sem,ah];omega)
 all_goals first|exact oj fun hv=>by have:=hv.2.2.2.2.2 h (by omega);omega|skip
 ·have h4:m.getD h 0<4*s.length:=by assumption
  refine ⟨bI.fn rfl (DK s h (by omega) (by omega) (by omega)) ?_⟩
  repeat' (first|omega|(try apply ag);simp only [go_sem,sevalprocAttr]|apply ae<;>(intro h_;(try simp only [h_]);revert h_)|apply And.intro|with_reducible intro h_|trivial|simp only [go_sem,ah];omega)
  refine ⟨bI.fn rfl (DK s (m.getD h 0) (by assumption) h4 (by omega)) ?_⟩
  repeat' (first|omega|(try apply ag);simp only [go_sem,sevalprocAttr]|apply ae<;>(intro h_;(try simp only [h_]);revert h_)|apply And.intro|with_reducible intro h_|trivial|simp only [go_sem,ah];omega)
  all_goals first
   |exact oj fun hv=>by have:=hv.2.2.2.2.2 h (by omega);simp_all
   |(refine ⟨_,_,_,?_,?_,⟨h+1,by omega,rfl,QI tZ ⟨by assumption,h4,by assumption,by assumption,by assumption⟩,rfl,rfl⟩⟩
     ·omega
     ·refine Wk.sub ?_ ?_<;>simp only [go_sem,sevalprocAttr])
 ·have hm:m.length=4*s.length:=by omega
  obtain rfl:h=4*s.length:=by omega
  have uc:iN m s.length:=⟨hm,fun i hi=>⟨(tZ i hi).1,(tZ i hi).2.1⟩⟩;have lX:qg s m L=true:=by unfold qg;exact decide_eq_true ⟨by omega,hm,by assumption,by assumption,iG,tZ⟩
  refine ⟨au.fn rfl (Xg m s.length (by omega) uc) ?_⟩
  repeat' (first|omega|(try apply ag);simp only [go_sem,sevalprocAttr]|apply ae<;>(intro h_;(try simp only [h_]);revert h_)|apply And.intro|with_reducible intro h_|trivial|simp only [go_sem,ah];omega)
  refine ⟨au.fn rfl (Xf m s.length (by omega) hm (fun i hi=>uc.2 i (by omega))) ?_⟩
  repeat' (first|omega|(try apply ag);simp only [go_sem,sevalprocAttr]|apply ae<;>(intro h_;(try simp only [h_]);revert h_)|apply And.intro|with_reducible intro h_|trivial|simp only [go_sem,ah];omega)
  have Fa:=Gv m s.length s.length;have nG: ∀l∈b7 (fun h=>ak (bJ m) m.length h) (fl m) m.length,0<l.length/\0<=l.getD 0 0/\l.getD 0 0<4*s.length:=fun l hl=>by
   unfold b7 at hl;obtain ⟨x,hx,rfl⟩:=List.mem_map.1 hl;have SK:=List.mem_range.1 (List.mem_filter.1 hx).1;unfold ak;simp;omega
  have LX:=fun c:Int=>XD m (bB m s.length s.length) c;have hfn:(b7 (fun h=>ak (bJ m) m.length h) (fl m) m.length).length<=m.length:=by
   have:=List.length_filter_le (fl m) (List.range m.length)
   simp only [b7,List.length_map];simp only [zzJ] at this;exact this
  generalize b7 (fun h=>ak (bJ m) m.length h) (fl m) m.length=fs at*;have E2:pf m s.length 0:=fun c hc=>by omega
  have tY: ∀c:Nat,c<s.length->(bB m s.length s.length).getD c 0=c->kh (bB m s.length s.length) fs c≠cH (bB m s.length s.length) s.length c+2->false=cX s m L:=fun c hc h1 h2=>XL lX fun hv=>h2 (by rw [LX,hm];exact hv c hc h1)
  have Bm: ∀c:Nat,kh (bB m s.length s.length) fs c=cH (bB m s.length s.length) s.length c+2->eG m (bB m s.length s.length) (4*s.length) c=cH (bB m s.length s.length) s.length c+2:=fun c h2=>by rw [←h2,LX,hm]
  refine aR.intro (fun n fr H=> ∃c:Nat,c<=s.length/\n=s.length-c/\pf m s.length c/\fr=[(9,I c),(8,kO fs),(7,roI (bB m s.length s.length)),(3,I s.length)]/\H=[]) ?_ ?_
  ·refine ⟨_,_,_,?_,0,by omega,rfl,E2,rfl,rfl⟩;refine Wk.sub ?_ ?_<;>simp only [go_sem,sevalprocAttr]
  rintro n fr H ⟨c,hc,rfl,eI,rfl,rfl⟩;have SW:=WG eI;have cK:=tY c;have X3:=Bm c;clear tY Bm LX E2;by_cases b5:c<s.length
  ·have bc:decide ((c:Int)<s.length)=true:=by simp;omega
   generalize B0:bB m s.length s.length=lab at*;by_cases w4:lab.getD c 0=c
   ·have bl:(lab.getD c 0 !=(c:Int))=false:=by rw [w4];simp
    repeat' (first|omega|(try apply ag);simp only [go_sem,sevalprocAttr,bc,bl]|apply ae<;>(intro h_;(try simp only [h_]);revert h_)|apply And.intro|with_reducible intro h_|trivial|simp only [go_sem,ah];omega)
    refine aR.intro (fun n fr H=> ∃b:Nat,b<=s.length/\n=s.length-b/\fr=[(12,I b),(10,I (cH lab b c)),(11,I 0),(9,I c),(8,kO fs),(7,roI lab),(3,I s.length)]/\H=[]) ?_ ?_
    ·refine ⟨_,_,_,?_,0,by omega,rfl,rfl,rfl⟩;refine Wk.sub ?_ ?_<;>simp only [go_sem,sevalprocAttr]
     all_goals simp [cH]
    rintro n fr H ⟨b,hb,rfl,rfl,rfl⟩;have nH:=Jk lab b c;by_cases L4:b<s.length
    ·have bb:decide ((b:Int)<s.length)=true:=by simp;omega
     have es:=PU lab b c;by_cases rU:lab.getD b 0=c
     ·have bq:(lab.getD b 0==(c:Int))=true:=by rw [rU];simp
      rw [if_pos rU] at es
      repeat' (first|omega|(try apply ag);simp only [go_sem,sevalprocAttr,bb,bq]|apply ae<;>(intro h_;(try simp only [h_]);revert h_)|apply And.intro|with_reducible intro h_|trivial|simp only [go_sem,ah];omega)
      refine ⟨_,_,_,?_,?_,⟨b+1,by omega,rfl,rfl,rfl⟩⟩
      ·omega
      ·rw [es];refine Wk.sub ?_ ?_<;>simp only [go_sem,sevalprocAttr]
       all_goals simp
     ·have bq:(lab.getD b 0==(c:Int))=false:=by simpa using rU
      rw [if_neg rU] at es
      repeat' (first|omega|(try apply ag);simp only [go_sem,sevalprocAttr,bb,bq]|apply ae<;>(intro h_;(try simp only [h_]);revert h_)|apply And.intro|with_reducible intro h_|trivial|simp only [go_sem,ah];omega)
      refine ⟨_,_,_,?_,?_,⟨b+1,by omega,rfl,rfl,rfl⟩⟩
      ·omega
      ·rw [es];refine Wk.sub ?_ ?_<;>simp only [go_sem,sevalprocAttr]
    ·obtain rfl:b=s.length:=by omega
     have bb:decide ((s.length:Int)<s.length)=false:=by simp
     repeat' (first|omega|(try apply ag);simp only [go_sem,sevalprocAttr,bb]|apply ae<;>(intro h_;(try simp only [h_]);revert h_)|apply And.intro|with_reducible intro h_|trivial|simp only [go_sem,ah];omega)
     refine aR.intro (fun n fr H=> ∃i:Nat,i<=fs.length/\n=fs.length-i/\fr=[(13,I i),(10,I (cH lab s.length c)),(11,I (kh lab (fs.take i) c)),(9,I c),(8,kO fs),(7,roI lab),(3,I s.length)]/\H=[]) ?_ ?_
     ·refine ⟨_,_,_,?_,0,by omega,rfl,rfl,rfl⟩;refine Wk.sub ?_ ?_<;>simp only [go_sem,sevalprocAttr]
      all_goals simp [kh]
     rintro n fr H ⟨i,hi,rfl,rfl,rfl⟩;have YW:=Jl lab (fs.take i) c;have sW:(fs.take i).length<=i:=by simp;omega
     by_cases bH:i<fs.length
     ·have bi:decide ((i:Int)<fs.length)=true:=by simp;omega
      have hg:=Pe fs i bH;have vM:=nG (fs.getD i []) (by simp [bH]);have et:=We (lab:=lab) (c:=c) bH;have ed:((fs.getD i []).getD 0 0).tdiv 4=(fs.getD i []).getD 0 0/4:=sG vM.2.1;by_cases rU:lab.getD ((fs.getD i []).getD 0 0/4).toNat 0=c
      ·have bq:(lab.getD ((fs.getD i []).getD 0 0/4).toNat 0==(c:Int))=true:=by rw [rU];simp
       rw [if_pos rU] at et
       repeat' (first|omega|(try apply ag);simp only [go_sem,sevalprocAttr,bi,hg,ed,bq]|apply ae<;>(intro h_;(try simp only [h_]);revert h_)|apply And.intro|with_reducible intro h_|trivial|simp only [go_sem,ah];omega)
       refine ⟨_,_,_,?_,?_,⟨i+1,by omega,rfl,rfl,rfl⟩⟩
       ·omega
       ·rw [et];refine Wk.sub ?_ ?_<;>simp only [go_sem,sevalprocAttr]
        all_goals simp
      ·have bq:(lab.getD ((fs.getD i []).getD 0 0/4).toNat 0==(c:Int))=false:=by simpa using rU
       rw [if_neg rU] at et
       repeat' (first|omega|(try apply ag);simp only [go_sem,sevalprocAttr,bi,hg,ed,bq]|apply ae<;>(intro h_;(try simp only [h_]);revert h_)|apply And.intro|with_reducible intro h_|trivial|simp only [go_sem,ah];omega)
       refine ⟨_,_,_,?_,?_,⟨i+1,by omega,rfl,rfl,rfl⟩⟩
       ·omega
       ·rw [et];refine Wk.sub ?_ ?_<;>simp only [go_sem,sevalprocAttr]
     ·obtain rfl:i=fs.length:=by omega
      have bi:decide ((fs.length:Int)<fs.length)=false:=by simp
      rw [List.take_length] at*
      repeat' (first|omega|(try apply ag);simp only [go_sem,sevalprocAttr,bi]|apply ae<;>(intro h_;(try simp only [h_]);revert h_)|apply And.intro|with_reducible intro h_|trivial|simp only [go_sem,ah];omega)
      all_goals first
       |exact cK b5 w4 (by omega)
       |(refine ⟨_,_,_,?_,?_,⟨c+1,by omega,rfl,SW (fun _=>X3 (by omega)),rfl,rfl⟩⟩
         ·omega
         ·refine Wk.sub ?_ ?_<;>simp only [go_sem,sevalprocAttr])
   ·have bl:(lab.getD c 0 !=(c:Int))=true:=by simpa using w4
    repeat' (first|omega|(try apply ag);simp only [go_sem,sevalprocAttr,bc,bl]|apply ae<;>(intro h_;(try simp only [h_]);revert h_)|apply And.intro|with_reducible intro h_|trivial|simp only [go_sem,ah];omega)
    refine ⟨_,_,_,?_,?_,⟨c+1,by omega,rfl,SW (fun q=>absurd q w4),rfl,rfl⟩⟩
    ·omega
    ·refine Wk.sub ?_ ?_<;>simp only [go_sem,sevalprocAttr]
  ·obtain rfl:c=s.length:=by omega
   have bc:decide ((s.length:Int)<s.length)=false:=by simp
   repeat' (first|omega|(try apply ag);simp only [go_sem,sevalprocAttr,bc]|apply ae<;>(intro h_;(try simp only [h_]);revert h_)|apply And.intro|with_reducible intro h_|trivial|simp only [go_sem,ah];omega)
   exact XK lX eI
def uL:List (List Nat):=[[70],[70],[68,69],[],[],[],[],[77],[77],[75,76],[],[],[],[],[],[84,85,86,87],[83,85,86],[83,84],[83,84],[83],[],[],[]]
def uK:List (List Nat):=[[],[],[0,1],[],[],[],[],[],[],[7,8],[],[],[],[],[],[],[15],[15,16],[15,16],[15],[],[],[]]
theorem Jj {s m:List Int} {L:Int} (h:sk s m L=true):s.length<=9/\m.length<=45/\(L<=9\/64<L):=by
 simpa [sk,and_assoc] using h
theorem Rs {p:List (Int×Int)} {f:Int->Int} (h:aV p f) (hs: ∀e,f e≠0-> -200<=e/\e<=200) (hb: ∀e,-562949953421312<=f e/\f e<=562949953421312):tf p/\p.length<=1000:=by
 refine ⟨fun k hk=>?_,?_⟩
 ·have h1:=h.mem (iO hk);have h2:=hs _ h1.2;have h3:=hb (p.getD k (0,0)).1;rw [h1.1];omega
 ·have:=h.asc.len (a:= -200) (b:=200) fun t ht=>hs _ (h.mem ht).2
  omega
theorem y0i (s m:List Int) (L:Int):Fn Tryz.prog 4 [dgA s m L] (.bool true):=by
 have hA:=XF;have hF:=Iw s m L;cases hf:sk s m L with
 |false=>
  rw [hf] at hF;refine Fn.intro [.tmp 2] Tryz.func4 rfl rfl (by decide) (by simp [Tryz.ntmps4]) ?_;rw [Tryz.ntmps4]
  repeat' (first|omega|(first|apply ag|(refine aj.intro (id:=15) uL uK (by decide+kernel) mixed ?_)|skip);simp only [go_sem,sevalprocAttr,hA,↓reduceIte,reduceCtorEq,uL,uK]|(refine ⟨au.fn (r:=?_) rfl ?_ ?_⟩;rotate_left;assumption)|(refine ⟨bI.fn (r:=?_) rfl ?_ ?_⟩;rotate_left;assumption)|apply ae<;>(intro h_;(try simp only [h_]);revert h_)|apply And.intro|with_reducible intro h_|trivial|simp only [go_sem,ah];omega)
 |true=>
 rw [hf] at hF;obtain ⟨hs,hm,hL⟩:=Jj hf;have hZ:=Vf;have hV:=WE s m L;cases hv:cX s m L with
 |false=>
  rw [hv] at hV;have hP:=Wl s m L hv;have hC:=P5 s m L 1 (by decide) hP;have hT:=P4 s m L 1 (by decide) hC;refine Fn.intro [.tmp 2] Tryz.func4 rfl rfl (by decide) (by simp [Tryz.ntmps4]) ?_;rw [Tryz.ntmps4]
  repeat' (first|omega|(first|apply ag|(refine aj.intro (id:=15) uL uK (by decide+kernel) mixed ?_)|skip);simp only [go_sem,sevalprocAttr,hA,↓reduceIte,reduceCtorEq,uL,uK]|(refine ⟨au.fn (r:=?_) rfl ?_ ?_⟩;rotate_left;assumption)|(refine ⟨bI.fn (r:=?_) rfl ?_ ?_⟩;rotate_left;assumption)|apply ae<;>(intro h_;(try simp only [h_]);revert h_)|apply And.intro|with_reducible intro h_|trivial|simp only [go_sem,ah];omega)
 |true=>
 rw [hv] at hV;have v1:=jb hv;have l0:=v1.l0;have EU:=v1.EU;obtain ⟨l,rfl⟩: ∃l:Nat,L=l:=⟨L.toNat,by omega⟩;have hl:l<=9:=by omega
 by_cases h0:s.length=0/\l=0
 ·obtain ⟨Lh,rfl⟩:=h0;obtain rfl:s=[]:=List.length_eq_zero_iff.1 Lh;have hP:=Wj m hv;have hC:=P5 [] m 0 8 (by decide) hP;have hT:=P4 [] m 0 8 (by decide) hC;refine Fn.intro [.tmp 2] Tryz.func4 rfl rfl (by decide) (by simp [Tryz.ntmps4]) ?_;rw [Tryz.ntmps4]
  repeat' (first|omega|(first|apply ag|(refine aj.intro (id:=15) uL uK (by decide+kernel) mixed ?_)|skip);simp only [go_sem,sevalprocAttr,hA,↓reduceIte,reduceCtorEq,uL,uK]|(refine ⟨au.fn (r:=?_) rfl ?_ ?_⟩;rotate_left;assumption)|(refine ⟨bI.fn (r:=?_) rfl ?_ ?_⟩;rotate_left;assumption)|apply ae<;>(intro h_;(try simp only [h_]);revert h_)|apply And.intro|with_reducible intro h_|trivial|simp only [go_sem,ah];omega)
 have b0:((s.length:Int)+(l:Int)==0)=false:=by rw [beq_eq_false_iff_ne];omega
 have hp:=dI hv;have hw:=uO v1.sg s.length (zzA _);have fW:=fun e (he:fP m s.length l (wrS s s.length) e≠0)=>Jm hv h0 he;have hP:=Ht s m l hs (by omega) hv h0;have hC:=Oj s m l hs (by omega) hv h0 fW;have hT:=Hq s m l hs (by omega) hv h0 fW;have hRP:=P7 s m l hv hs hl;have hRC:=P6 s m l hv hs hl;have hK:=U3 s m l hv
 have hRT:=Wm s m l ((ff s m).length+l) (by omega) hv hs hl;have hj:=Df (w:=wrS s s.length) hp hs (show l<=20 by omega) (by omega);have B3:=fun e (he:fP m s.length l (wrS s s.length) e≠0)=>qL hp hs (show l<=20 by omega) (by omega) he;have S9:=fun e=>yj (m:=m) (w:=wrS s s.length) hp hs (show l<=20 by omega) e
 have hc:aV (bS (dD m s.length l (wrS s s.length))) (dD m s.length l (wrS s s.length)):=nQ fun e he=>by have:=B3 _ he;omega
 obtain ⟨j1,j2⟩:=Rs hj (fun e he=>by have:=B3 e he;omega) (fun e=>by have:=S9 e;omega);obtain ⟨c1,c2⟩:=Rs hc (fun e he=>by have:=B3 _ he;omega) (fun e=>by have:=S9 (-(2*e));unfold dD;omega);have Y3:=DO (ks m s.length l (wrS s s.length)) ⟨#[65]⟩ j1 (by decide) (by omega);have Md:=DO (bS (dD m s.length l (wrS s s.length))) ⟨#[115]⟩ c1 (by decide) (by omega)
 rw [show (⟨#[65]⟩:ByteArray).data.toList=[65] from rfl] at Y3;rw [show (⟨#[115]⟩:ByteArray).data.toList=[115] from rfl] at Md;have hY1:=Hf (ks m s.length l (wrS s s.length)) [65] j1 (by decide) j2;have hY2:=Hf (bS (dD m s.length l (wrS s s.length))) [115] c1 (by decide) c2;generalize fD [65] (ks m s.length l (wrS s s.length))=t1 at*
 generalize fD [115] (bS (dD m s.length l (wrS s s.length)))=t2 at*;generalize tS (((ff s m).length:Int)+l) (bS (cD m s.length l (wrS s s.length) (((ff s m).length:Int)+l)))=t3 at*;generalize ks m s.length l (wrS s s.length)=p at*;generalize bS (dD m s.length l (wrS s s.length))=q at*;generalize ((ff s m).length:Int)+l=C at*
 have e1:((⟨t1.toArray⟩:ByteArray).toList==(⟨t1.toArray⟩:ByteArray).toList)=true:=beq_self_eq_true _;have e2:((⟨t2.toArray⟩:ByteArray).toList==(⟨t2.toArray⟩:ByteArray).toList)=true:=beq_self_eq_true _;have e3:((⟨t3.toArray⟩:ByteArray).toList==(⟨t3.toArray⟩:ByteArray).toList)=true:=beq_self_eq_true _;refine Fn.intro [.tmp 2] Tryz.func4 rfl rfl (by decide) (by simp [Tryz.ntmps4]) ?_;rw [Tryz.ntmps4]
 repeat' (first|omega|(first|apply ag|(refine aj.intro (id:=15) uL uK (by decide+kernel) mixed ?_)|skip);simp only [go_sem,sevalprocAttr,b0,e1,e2,e3,↓reduceIte,reduceCtorEq,uL,uK]|(refine ⟨au.fn (r:=?_) rfl ?_ ?_⟩;rotate_left;assumption)|(refine ⟨bI.fn (r:=?_) rfl ?_ ?_⟩;rotate_left;assumption)|apply ae<;>(intro h_;(try simp only [h_]);revert h_)|apply And.intro|with_reducible intro h_|trivial|simp only [go_sem,ah];omega)
end Go.Proofs.YtmdjdekgakidhaaGreatDoor
