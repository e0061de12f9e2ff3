/- Layer 18: the law JonesSums. -/
import Derived.Test.YtphjphpmfflfpaaGreatDoorZp
import Derived.Test.YtphjphpmfflfpaaGreatDoorJs
import Derived.Test.YtphjphpmfflfpaaGreatDoorCu1
import Derived.Test.YtphjphpmfflfpaaGreatDoorUn2
import Derived.Test.YtphjphpmfflfpaaGreatDoorEq1
import Derived.Test.YtphjphpmfflfpaaGreatDoorOn1
namespace Go.Proofs.YtphjphpmfflfpaaGreatDoor
open Go Go.RowKit
set_option maxRecDepth 100000
set_option maxHeartbeats 8000000
set_option linter.unusedVariables false
set_option linter.unusedSimpArgs false
def nC:List (List Nat):=[[],[],[],[],[],[],[],[],[],[],[],[],[],[],[],[83,84,85,86,87,88],[82,84,86],[82,83,86],[82,86],[82,83,84,85],[82],[82],[],[],[]]
def nB:List (List Nat):=[[],[],[],[],[],[],[],[],[],[],[],[],[],[],[],[],[15],[15,16],[15],[15,16,17,18],[15],[15],[],[],[]]
def nA:List (List Nat):=[[104,105,106,108,109,110,111,112,113],[104,105,106,108,109,110,111,112,113],[102,103,108,109,110,111,112,113],[102,103,108,109,110,111,112,113],[102,103,108,109,110,111,112,113],[108,109,110,111,112,113],[102,103,104,105,106,107,110,111,112,17],[102,103,104,105,106,107,110,111,112,17],[102,103,104,105,106,107,108,109,17],[102,103,104,105,106,107,108,109,17],[102,103,104,105,106,107,108,109,17],[102,103,104,105,106,107,17],[108,109,110,111,112,113],[]]
def ny:List (List Nat):=[[],[],[0,1],[0,1],[0,1],[],[0,1,2,3,4,5],[0,1,2,3,4,5],[0,1,2,3,4,5,6,7],[0,1,2,3,4,5,6,7],[0,1,2,3,4,5,6,7],[0,1,2,3,4,5],[6,7,8,9,10,11],[]]
def nv:List (List Nat):=[[],[],[],[],[],[],[],[153,154,155],[152,154],[152,153],[152],[],[],[]]
def nt:Tr:= .node [(0, .node [(1, .node [(2, .node [(3, .node [(4, .node [(5, .node [(6, .node [(7, .node [(8, .node [(9, .node [(10, .node [(11, .node [(12, .node [(13, .done)])])])])]),(9, .node [(8, .node [(10, .node [(11, .node [(12, .node [(13, .done)])])])])])]),(8, .node [(7, .node [(9, .node [(10, .node [(11, .node [(12, .node [(13, .done)])])])])]),(9, .node [(7, .node [(10, .node [(11, .node [(12, .node [(13, .done)])])])]),(10, .node [(7, .node [(11, .node [(12, .node [(13, .done)])])])])])]),(9, .node [(7, .node [(8, .node [(10, .node [(11, .node [(12, .node [(13, .done)])])])])]),(8, .node [(7, .node [(10, .node [(11, .node [(12, .node [(13, .done)])])])]),(10, .node [(7, .node [(11, .node [(12, .node [(13, .done)])])])])])])])])])])])])])]
theorem UG (s m:List Int) (L h:Int) (hv:bF s m L=true) (h0:0<=h) (h1:h<m.length):Fn Tryz.prog 46 [dgA s m L,I h] (.bool (aw s h)):=by
 have v1:=cK hv;have hV:=l8 s m L;rw [hv] at hV;have l1:=v1.len;have qh:=v1.s64;have hO:=HO s m L h h0 (by omega) (by omega);have b2:decide (0<=h)=true:=by rw [decide_eq_true_iff];omega
 have b3:decide (h<m.length)=true:=by rw [decide_eq_true_iff];omega
 refine Fn.intro [.tmp 4] Tryz.func46 rfl rfl (by decide) (by simp [Tryz.ntmps46]) ?_;rw [Tryz.ntmps46]
 repeat' (first|omega|(try apply ag);simp only [go_sem,sevalprocAttr,b2,b3]|(refine ⟨aA.fn (r:=?_) rfl ?_ ?_⟩;rotate_left;assumption)|(refine ⟨bC.fn (r:=?_) rfl ?_ ?_⟩;rotate_left;assumption)|apply ah<;>(intro h_;(try simp only [h_]);revert h_)|apply ai|apply aj|apply ae|apply And.intro|with_reducible intro h_|trivial|simp only [go_sem,ak];omega)
def gQ (s m:List Int) (i:Nat):Nat:=if aw s i then i else (m.getD i 0).toNat
theorem VT {s m:List Int} {L:Int} (hv:bF s m L=true) {i:Nat} (hi:i<m.length):gQ s m i<m.length/\aw s (gQ s m i)=true:=by
 have v1:=cK hv;have l1:=v1.len
 have:=v1.mt i (by omega)
 unfold gQ;cases ho:aw s (i:Int) with
 |true=>exact ⟨by simpa using hi,by simpa using ho⟩
 |false=>
  obtain ⟨a,b,_,_,c⟩:=this;rw [if_neg (by simp)];refine ⟨by omega,?_⟩;rw [show (((m.getD i 0).toNat:Nat):Int)=m.getD i 0 by omega];rw [ho] at c;revert c;cases aw s (m.getD i 0)<;>simp
theorem yya (s m:List Int) (L:Int) (s' m':List Int) (L':Int) (z:Int) (hz:0<=z/\z<=255) (z':Int) (wy:0<=z'/\z'<=255):Fn Tryz.prog 8 [dgA s m L,dgA s' m' L', .int .u8 z, .int .u8 z'] (.bool true):=by
 have hA:=Dw;have hF:=Bz s m L;have qY:=Bz s' m' L';have hd:=Nv;cases hf:uD s m L with
 |false=>
  rw [hf] at hF;refine Fn.intro [.tmp 8] Tryz.func8 rfl rfl (by decide) (by simp [Tryz.ntmps8]) ?_;rw [Tryz.ntmps8]
  repeat' (first|omega|(first|apply ag|(refine an.intro (id:=7) nC nB (by decide+kernel) mixed ?_)|(refine an.intro (id:=11) nA ny (by decide+kernel) mixed ?_)|(refine an.intro (id:=18) nv [[],[],[],[],[],[],[],[],[7],[7,8],[7],[],[],[]] (by decide+kernel) mixed ?_)|(refine an.aB (id:=18) (nt) (by decide+kernel) mixed ?_)|skip);simp only [go_sem,sevalprocAttr,hA,↓reduceIte,reduceCtorEq,nC,nB,nA,ny,nv,nt]|(refine ⟨aA.fn (r:=?_) rfl ?_ ?_⟩;rotate_left;assumption)|(refine ⟨bC.fn (r:=?_) rfl ?_ ?_⟩;rotate_left;assumption)|apply ah<;>(intro h_;(try simp only [h_]);revert h_)|apply ai|apply aj|apply ae|apply And.intro|with_reducible intro h_|trivial|simp only [go_sem,ak];omega)
 |true=>
 rw [hf] at hF;cases yv:uD s' m' L' with
 |false=>
  rw [yv] at qY;refine Fn.intro [.tmp 8] Tryz.func8 rfl rfl (by decide) (by simp [Tryz.ntmps8]) ?_;rw [Tryz.ntmps8]
  repeat' (first|omega|(first|apply ag|(refine an.intro (id:=7) nC nB (by decide+kernel) mixed ?_)|(refine an.intro (id:=11) nA ny (by decide+kernel) mixed ?_)|(refine an.intro (id:=18) nv [[],[],[],[],[],[],[],[],[7],[7,8],[7],[],[],[]] (by decide+kernel) mixed ?_)|(refine an.aB (id:=18) (nt) (by decide+kernel) mixed ?_)|skip);simp only [go_sem,sevalprocAttr,hA,↓reduceIte,reduceCtorEq,nC,nB,nA,ny,nv,nt]|(refine ⟨aA.fn (r:=?_) rfl ?_ ?_⟩;rotate_left;assumption)|(refine ⟨bC.fn (r:=?_) rfl ?_ ?_⟩;rotate_left;assumption)|apply ah<;>(intro h_;(try simp only [h_]);revert h_)|apply ai|apply aj|apply ae|apply And.intro|with_reducible intro h_|trivial|simp only [go_sem,ak];omega)
 |true=>
 rw [yv] at qY;by_cases hn9:9<s.length+s'.length
 ·have b0:decide ((9:Int)<s.length+s'.length)=true:=by rw [decide_eq_true_iff];omega
  have hs5:=(xu hf).1;have hs6:=(xu yv).1;refine Fn.intro [.tmp 8] Tryz.func8 rfl rfl (by decide) (by simp [Tryz.ntmps8]) ?_;rw [Tryz.ntmps8]
  repeat' (first|omega|(first|apply ag|(refine an.intro (id:=7) nC nB (by decide+kernel) mixed ?_)|(refine an.intro (id:=11) nA ny (by decide+kernel) mixed ?_)|(refine an.intro (id:=18) nv [[],[],[],[],[],[],[],[],[7],[7,8],[7],[],[],[]] (by decide+kernel) mixed ?_)|(refine an.aB (id:=18) (nt) (by decide+kernel) mixed ?_)|skip);simp only [go_sem,sevalprocAttr,b0,↓reduceIte,reduceCtorEq,nC,nB,nA,ny,nv,nt]|(refine ⟨aA.fn (r:=?_) rfl ?_ ?_⟩;rotate_left;assumption)|(refine ⟨bC.fn (r:=?_) rfl ?_ ?_⟩;rotate_left;assumption)|apply ah<;>(intro h_;(try simp only [h_]);revert h_)|apply ai|apply aj|apply ae|apply And.intro|with_reducible intro h_|trivial|simp only [go_sem,ak];omega)
 have b0:decide ((9:Int)<s.length+s'.length)=false:=by rw [decide_eq_false_iff_not];omega
 obtain ⟨hs,l,rfl,hl,hv,az⟩:=xu hf;obtain ⟨aZ,l',rfl,rP,fN,oJ⟩:=xu yv;have hp:=bP hv;have cQ:=bP fN;have v1:=cK hv;have v2:=cK fN;have hw:=rh v1.sg s.length (Nat.le_refl _);have WY:=rh v2.sg s'.length (Nat.le_refl _);have hU:=Ol s m l s' m' l' hv fN (by omega) (by omega);have sK:=Sp.fR hv fN (by omega) (by omega)
 have cL:(s++s').length=s.length+s'.length:=by simp
 have dc:=bP sK;rw [cL] at dc;have hP:=pJ s m l hs (by omega) hv az;have XQ:=pJ s' m' l' aZ (by omega) fN oJ;have hPU:=pJ (s++s') (Sp.bR m m') (l+l') (by omega) (by omega) (by exact_mod_cast sK) (by omega);rw [cL,Wo,show ((l+l':Nat):Int)=(l:Int)+l' by omega] at hPU
 obtain ⟨r,hr,hM⟩:=Ms (w1:=bq s s.length) (w2:=bq s' s'.length) hp cQ dc v1.len v2.len az oJ (by omega) hl rP (by omega) (by omega);have hD:=Mr hp cQ dc az oJ (by omega) hl rP (w:=bq s s.length+bq s' s'.length) (by omega) hr;have Xr:=se (w:=bq s s.length+bq s' s'.length) dc (show s.length+s'.length<=9 by omega) (show l+l'<=20 by omega) (by omega)
 have cO:=Xr.len fun e he=>by have:=mL (w:=bq s s.length+bq s' s'.length) dc (by omega) (show l+l'<=20 by omega) (by omega) he;omega
 have qU:=BP (cW (Sp.bR m m') (s.length+s'.length) (l+l') (bq s s.length+bq s' s'.length)) (by omega);have ml:=v1.len;have ml':=v2.len;by_cases h0:s.length=0\/s'.length=0
 ·generalize cW (Sp.bR m m') (s.length+s'.length) (l+l') (bq s s.length+bq s' s'.length)=pu at*;generalize cW m s.length l (bq s s.length)=p at*;generalize cW m' s'.length l' (bq s' s'.length)=p' at*;generalize Sp.bR m m'=mu at*;generalize s++s'=su at*;have b1:((s.length:Int)==0)=true\/(((s.length:Int)==0)=false/\((s'.length:Int)==0)=true):=by
   by_cases h:s.length=0
   ·exact .inl (by rw [beq_iff_eq];omega)
   ·exact .inr ⟨by rw [beq_eq_false_iff_ne];omega,by rw [beq_iff_eq];omega⟩
  rcases b1 with b1|⟨b1,b2⟩
  ·refine Fn.intro [.tmp 8] Tryz.func8 rfl rfl (by decide) (by simp [Tryz.ntmps8]) ?_;rw [Tryz.ntmps8]
   repeat' (first|omega|(first|apply ag|(refine an.intro (id:=7) nC nB (by decide+kernel) mixed ?_)|(refine an.intro (id:=11) nA ny (by decide+kernel) mixed ?_)|(refine an.intro (id:=18) nv [[],[],[],[],[],[],[],[],[7],[7,8],[7],[],[],[]] (by decide+kernel) mixed ?_)|(refine an.aB (id:=18) (nt) (by decide+kernel) mixed ?_)|skip);simp only [go_sem,sevalprocAttr,b0,b1,↓reduceIte,reduceCtorEq,nC,nB,nA,ny,nv,nt]|(refine ⟨aA.fn (r:=?_) rfl ?_ ?_⟩;rotate_left;assumption)|(refine ⟨bC.fn (r:=?_) rfl ?_ ?_⟩;rotate_left;assumption)|apply ah<;>(intro h_;(try simp only [h_]);revert h_)|apply ai|apply aj|apply ae|apply And.intro|with_reducible intro h_|trivial|simp only [go_sem,ak];omega)
   refine ⟨bC.new (h:=hd) rfl (by simp only [go_sem,sevalprocAttr]) (by simp only [go_sem,sevalprocAttr];try rfl) ?_⟩;simp only [go_sem,sevalprocAttr]
   repeat' (first|omega|(first|apply ag|(refine an.intro (id:=7) nC nB (by decide+kernel) mixed ?_)|(refine an.intro (id:=11) nA ny (by decide+kernel) mixed ?_)|(refine an.intro (id:=18) nv [[],[],[],[],[],[],[],[],[7],[7,8],[7],[],[],[]] (by decide+kernel) mixed ?_)|(refine an.aB (id:=18) (nt) (by decide+kernel) mixed ?_)|skip);simp only [go_sem,sevalprocAttr,b0,b1,↓reduceIte,reduceCtorEq,nC,nB,nA,ny,nv,nt]|(refine ⟨aA.fn (r:=?_) rfl ?_ ?_⟩;rotate_left;assumption)|(refine ⟨bC.fn (r:=?_) rfl ?_ ?_⟩;rotate_left;assumption)|apply ah<;>(intro h_;(try simp only [h_]);revert h_)|apply ai|apply aj|apply ae|apply And.intro|with_reducible intro h_|trivial|simp only [go_sem,ak];omega)
  ·refine Fn.intro [.tmp 8] Tryz.func8 rfl rfl (by decide) (by simp [Tryz.ntmps8]) ?_;rw [Tryz.ntmps8]
   repeat' (first|omega|(first|apply ag|(refine an.intro (id:=7) nC nB (by decide+kernel) mixed ?_)|(refine an.intro (id:=11) nA ny (by decide+kernel) mixed ?_)|(refine an.intro (id:=18) nv [[],[],[],[],[],[],[],[],[7],[7,8],[7],[],[],[]] (by decide+kernel) mixed ?_)|(refine an.aB (id:=18) (nt) (by decide+kernel) mixed ?_)|skip);simp only [go_sem,sevalprocAttr,b0,b1,b2,↓reduceIte,reduceCtorEq,nC,nB,nA,ny,nv,nt]|(refine ⟨aA.fn (r:=?_) rfl ?_ ?_⟩;rotate_left;assumption)|(refine ⟨bC.fn (r:=?_) rfl ?_ ?_⟩;rotate_left;assumption)|apply ah<;>(intro h_;(try simp only [h_]);revert h_)|apply ai|apply aj|apply ae|apply And.intro|with_reducible intro h_|trivial|simp only [go_sem,ak];omega)
   refine ⟨bC.new (h:=hd) rfl (by simp only [go_sem,sevalprocAttr]) (by simp only [go_sem,sevalprocAttr];try rfl) ?_⟩;simp only [go_sem,sevalprocAttr]
   repeat' (first|omega|(first|apply ag|(refine an.intro (id:=7) nC nB (by decide+kernel) mixed ?_)|(refine an.intro (id:=11) nA ny (by decide+kernel) mixed ?_)|(refine an.intro (id:=18) nv [[],[],[],[],[],[],[],[],[7],[7,8],[7],[],[],[]] (by decide+kernel) mixed ?_)|(refine an.aB (id:=18) (nt) (by decide+kernel) mixed ?_)|skip);simp only [go_sem,sevalprocAttr,b0,b1,b2,↓reduceIte,reduceCtorEq,nC,nB,nA,ny,nv,nt]|(refine ⟨aA.fn (r:=?_) rfl ?_ ?_⟩;rotate_left;assumption)|(refine ⟨bC.fn (r:=?_) rfl ?_ ?_⟩;rotate_left;assumption)|apply ah<;>(intro h_;(try simp only [h_]);revert h_)|apply ai|apply aj|apply ae|apply And.intro|with_reducible intro h_|trivial|simp only [go_sem,ak];omega)
 have b1:((s.length:Int)==0)=false:=by rw [beq_eq_false_iff_ne];omega
 have b2:((s'.length:Int)==0)=false:=by rw [beq_eq_false_iff_ne];omega
 obtain ⟨i,hi⟩: ∃i:Nat,z.tmod m.length=i:=⟨(z % m.length).toNat,by rw [Int.tmod_eq_emod_of_nonneg hz.1];have:=Int.emod_nonneg z (show (m.length:Int)≠0 by omega);omega⟩;obtain ⟨i',iy⟩: ∃i:Nat,z'.tmod m'.length=i:=⟨(z' % m'.length).toNat,by rw [Int.tmod_eq_emod_of_nonneg wy.1];have:=Int.emod_nonneg z' (show (m'.length:Int)≠0 by omega);omega⟩;have fi:i<m.length:=by
  rw [Int.tmod_eq_emod_of_nonneg hz.1] at hi
  have:=Int.emod_lt_of_pos z (show (0:Int)<m.length by omega);omega
 have PZ:i'<m'.length:=by
  rw [Int.tmod_eq_emod_of_nonneg wy.1] at iy
  have:=Int.emod_lt_of_pos z' (show (0:Int)<m'.length by omega);omega
 have w1:IntKind.i64.wrap z=z:=IntWalk.i64_in _ (by omega);have w2:IntKind.i64.wrap z'=z':=IntWalk.i64_in _ (by omega);obtain ⟨ea,eb⟩:=VT hv fi;obtain ⟨Ya,QQ⟩:=VT fN PZ;have hO:=UG s m l i hv (by omega) (by omega);have hO':=UG s' m' l' i' fN (by omega) (by omega);have hS:=Mp s m l s' m' l' (gQ s m i) (gQ s' m' i') hv fN (by omega) (by omega) ea Ya eb QQ
 have rI:=Oo hv fN (show s.length+s'.length<=64 by omega) (show (l:Int)+l'<=64 by omega) (x:=gQ s m i) (y:=gQ s' m' i') (by omega) (by omega) eb QQ;have hPS:=pJ (s++s') (jl m m' (gQ s m i) (gQ s' m' i')) (l+l') (by omega) (by omega) (by exact_mod_cast rI) (by omega)
 rw [cL,Wo,Mq hp cQ dc (by omega) hl rP (by omega) (by omega) (by omega) hr,show ((l+l':Nat):Int)=(l:Int)+l' by omega] at hPS;have jK:=hr.len fun e he=>by
  have h0:aU (Sp.bR m m') (s.length+s'.length) (l+l') 2 (e+3*(bq s s.length+bq s' s'.length))≠0:=fun h=>he (by simp only [h];omega);have h1:=uZ dc h0;have h2:=qq dc (fun _=>true);have h3:=qq dc (fun _=>false);omega
 have qS:=BP r (by omega);have mi:=(v1.mt i (by omega));have mi':=(v2.mt i' (by omega));obtain ⟨k,hk⟩: ∃k:Int,((gQ s m i:Nat):Int)=k:=⟨_,rfl⟩;obtain ⟨k',vt⟩: ∃k:Int,((gQ s' m' i':Nat):Int)=k:=⟨_,rfl⟩;have Ai:k=if aw s i then (i:Int) else m.getD i 0:=by
  rw [←hk];unfold gQ;split<;>omega
 have Ah:k'=if aw s' i' then (i':Int) else m'.getD i' 0:=by
  rw [←vt];unfold gQ;split<;>omega
 rw [hk,vt] at hS;generalize jl m m' (gQ s m i) (gQ s' m' i')=mc at*;generalize cW (Sp.bR m m') (s.length+s'.length) (l+l') (bq s s.length+bq s' s'.length)=pu at*;generalize cW m s.length l (bq s s.length)=p at*;generalize cW m' s'.length l' (bq s' s'.length)=p' at*;generalize Sp.bR m m'=mu at*;generalize s++s'=su at*;clear hr Xr sK dc rI hk vt ea Ya eb QQ
 cases ho:aw s (i:Int)<;>cases vr:aw s' (i':Int)
 all_goals
  rw [ho] at hO Ai;rw [vr] at hO' Ah;simp only [Bool.false_eq_true,if_false,if_true] at Ai Ah;subst Ai Ah;refine Fn.intro [.tmp 8] Tryz.func8 rfl rfl (by decide) (by simp [Tryz.ntmps8]) ?_;rw [Tryz.ntmps8]
  repeat' (first|omega|(first|apply ag|(refine an.intro (id:=7) nC nB (by decide+kernel) mixed ?_)|(refine an.intro (id:=11) nA ny (by decide+kernel) mixed ?_)|(refine an.intro (id:=18) nv [[],[],[],[],[],[],[],[],[7],[7,8],[7],[],[],[]] (by decide+kernel) mixed ?_)|(refine an.aB (id:=18) (nt) (by decide+kernel) mixed ?_)|skip);simp only [go_sem,sevalprocAttr,b0,b1,b2,w1,w2,hi,iy,↓reduceIte,reduceCtorEq,nC,nB,nA,ny,nv,nt]|(refine ⟨aA.fn (r:=?_) rfl ?_ ?_⟩;rotate_left;assumption)|(refine ⟨bC.fn (r:=?_) rfl ?_ ?_⟩;rotate_left;assumption)|apply ah<;>(intro h_;(try simp only [h_]);revert h_)|apply ai|apply aj|apply ae|apply And.intro|with_reducible intro h_|trivial|simp only [go_sem,ak];omega)
  refine ⟨bC.new (h:=hd) rfl (by simp only [go_sem,sevalprocAttr]) (by simp only [go_sem,sevalprocAttr];try rfl) ?_⟩;simp only [go_sem,sevalprocAttr]
  repeat' (first|omega|(first|apply ag|(refine an.intro (id:=7) nC nB (by decide+kernel) mixed ?_)|(refine an.intro (id:=11) nA ny (by decide+kernel) mixed ?_)|(refine an.intro (id:=18) nv [[],[],[],[],[],[],[],[],[7],[7,8],[7],[],[],[]] (by decide+kernel) mixed ?_)|(refine an.aB (id:=18) (nt) (by decide+kernel) mixed ?_)|skip);simp only [go_sem,sevalprocAttr,b0,b1,b2,w1,w2,hi,iy,↓reduceIte,reduceCtorEq,nC,nB,nA,ny,nv,nt]|(refine ⟨aA.fn (r:=?_) rfl ?_ ?_⟩;rotate_left;assumption)|(refine ⟨bC.fn (r:=?_) rfl ?_ ?_⟩;rotate_left;assumption)|apply ah<;>(intro h_;(try simp only [h_]);revert h_)|apply ai|apply aj|apply ae|apply And.intro|with_reducible intro h_|trivial|simp only [go_sem,ak];omega)
end Go.Proofs.YtphjphpmfflfpaaGreatDoor
