/- Layer 17: sweep's update: a pairing and its coefficients are added to the next states. -/
import Derived.Test.YtmdjdekgakidhaaDoorTd2
namespace Go.Proofs.YtmdjdekgakidhaaDoor
open Go Go.RowKit
set_option maxRecDepth 100000
set_option maxHeartbeats 8000000
set_option linter.unusedVariables false
set_option linter.unusedSimpArgs false
def ye2:Tr:= .node [(1, .node [(0, .node [(2, .node [(3, .node [(4, .node [(5, .done)])])]),(3, .node [(2, .node [(4, .node [(5, .done)])])])]),(2, .node [(0, .node [(3, .node [(4, .node [(5, .done)])])]),(3, .node [(0, .node [(4, .node [(5, .done)])]),(4, .node [(0, .node [(5, .done)])])])]),(3, .node [(0, .node [(2, .node [(4, .node [(5, .done)])])]),(2, .node [(0, .node [(4, .node [(5, .done)])]),(4, .node [(0, .node [(5, .done)])])])])])]
def ye3:Tr:= .node [(0, .node [(1, .node [(2, .node [(3, .node [(4, .node [(5, .done)])])]),(3, .node [(2, .node [(4, .node [(5, .done)])])])]),(2, .node [(1, .node [(3, .node [(4, .node [(5, .done)])])]),(3, .node [(1, .node [(4, .node [(5, .done)])]),(4, .node [(1, .node [(5, .done)])])])]),(3, .node [(1, .node [(2, .node [(4, .node [(5, .done)])])]),(2, .node [(1, .node [(4, .node [(5, .done)])]),(4, .node [(1, .node [(5, .done)])])])])]),(1, .node [(0, .node [(2, .node [(3, .node [(4, .node [(5, .done)])])]),(3, .node [(2, .node [(4, .node [(5, .done)])])])]),(2, .node [(0, .node [(3, .node [(4, .node [(5, .done)])])]),(3, .node [(0, .node [(4, .node [(5, .done)])]),(4, .node [(0, .node [(5, .done)])])])]),(3, .node [(0, .node [(2, .node [(4, .node [(5, .done)])])]),(2, .node [(0, .node [(4, .node [(5, .done)])]),(4, .node [(0, .node [(5, .done)])])])])]),(2, .node [(0, .node [(1, .node [(3, .node [(4, .node [(5, .done)])])]),(3, .node [(1, .node [(4, .node [(5, .done)])]),(4, .node [(1, .node [(5, .done)])])])]),(1, .node [(0, .node [(3, .node [(4, .node [(5, .done)])])]),(3, .node [(0, .node [(4, .node [(5, .done)])]),(4, .node [(0, .node [(5, .done)])])])]),(3, .node [(0, .node [(1, .node [(4, .node [(5, .done)])]),(4, .node [(1, .node [(5, .done)])])]),(1, .node [(0, .node [(4, .node [(5, .done)])]),(4, .node [(0, .node [(5, .done)])])]),(4, .node [(0, .node [(1, .node [(5, .done)])]),(1, .node [(0, .node [(5, .done)])])])])]),(3, .node [(0, .node [(1, .node [(2, .node [(4, .node [(5, .done)])])]),(2, .node [(1, .node [(4, .node [(5, .done)])]),(4, .node [(1, .node [(5, .done)])])])]),(1, .node [(0, .node [(2, .node [(4, .node [(5, .done)])])]),(2, .node [(0, .node [(4, .node [(5, .done)])]),(4, .node [(0, .node [(5, .done)])])])]),(2, .node [(0, .node [(1, .node [(4, .node [(5, .done)])]),(4, .node [(1, .node [(5, .done)])])]),(1, .node [(0, .node [(4, .node [(5, .done)])]),(4, .node [(0, .node [(5, .done)])])]),(4, .node [(0, .node [(1, .node [(5, .done)])]),(1, .node [(0, .node [(5, .done)])])])])])]
def ye4:Tr:= .node [(1, .node [(0, .node [(2, .node [(3, .node [(4, .node [(5, .node [(6, .node [(7, .node [(8, .done)])])])])]),(4, .node [(3, .node [(5, .node [(6, .node [(7, .node [(8, .done)])])])]),(5, .node [(3, .node [(6, .node [(7, .node [(8, .done)])])]),(6, .node [(3, .node [(7, .node [(8, .done)])])])])])]),(4, .node [(2, .node [(3, .node [(5, .node [(6, .node [(7, .node [(8, .done)])])])]),(5, .node [(3, .node [(6, .node [(7, .node [(8, .done)])])]),(6, .node [(3, .node [(7, .node [(8, .done)])])])])]),(5, .node [(2, .node [(3, .node [(6, .node [(7, .node [(8, .done)])])]),(6, .node [(3, .node [(7, .node [(8, .done)])])])]),(6, .node [(2, .node [(3, .node [(7, .node [(8, .done)])])])])])])]),(2, .node [(0, .node [(3, .node [(4, .node [(5, .node [(6, .node [(7, .node [(8, .done)])])])])]),(4, .node [(3, .node [(5, .node [(6, .node [(7, .node [(8, .done)])])])]),(5, .node [(3, .node [(6, .node [(7, .node [(8, .done)])])]),(6, .node [(3, .node [(7, .node [(8, .done)])])])])])]),(3, .node [(0, .node [(4, .node [(5, .node [(6, .node [(7, .node [(8, .done)])])])])]),(4, .node [(0, .node [(5, .node [(6, .node [(7, .node [(8, .done)])])])]),(5, .node [(0, .node [(6, .node [(7, .node [(8, .done)])])]),(6, .node [(0, .node [(7, .node [(8, .done)])]),(7, .node [(0, .node [(8, .done)])])])])])]),(4, .node [(0, .node [(3, .node [(5, .node [(6, .node [(7, .node [(8, .done)])])])]),(5, .node [(3, .node [(6, .node [(7, .node [(8, .done)])])]),(6, .node [(3, .node [(7, .node [(8, .done)])])])])]),(3, .node [(0, .node [(5, .node [(6, .node [(7, .node [(8, .done)])])])]),(5, .node [(0, .node [(6, .node [(7, .node [(8, .done)])])]),(6, .node [(0, .node [(7, .node [(8, .done)])]),(7, .node [(0, .node [(8, .done)])])])])]),(5, .node [(0, .node [(3, .node [(6, .node [(7, .node [(8, .done)])])]),(6, .node [(3, .node [(7, .node [(8, .done)])])])]),(3, .node [(0, .node [(6, .node [(7, .node [(8, .done)])])]),(6, .node [(0, .node [(7, .node [(8, .done)])]),(7, .node [(0, .node [(8, .done)])])])]),(6, .node [(0, .node [(3, .node [(7, .node [(8, .done)])])]),(3, .node [(0, .node [(7, .node [(8, .done)])]),(7, .node [(0, .node [(8, .done)])])])])])])]),(4, .node [(0, .node [(2, .node [(3, .node [(5, .node [(6, .node [(7, .node [(8, .done)])])])]),(5, .node [(3, .node [(6, .node [(7, .node [(8, .done)])])]),(6, .node [(3, .node [(7, .node [(8, .done)])])])])]),(5, .node [(2, .node [(3, .node [(6, .node [(7, .node [(8, .done)])])]),(6, .node [(3, .node [(7, .node [(8, .done)])])])]),(6, .node [(2, .node [(3, .node [(7, .node [(8, .done)])])])])])]),(2, .node [(0, .node [(3, .node [(5, .node [(6, .node [(7, .node [(8, .done)])])])]),(5, .node [(3, .node [(6, .node [(7, .node [(8, .done)])])]),(6, .node [(3, .node [(7, .node [(8, .done)])])])])]),(3, .node [(0, .node [(5, .node [(6, .node [(7, .node [(8, .done)])])])]),(5, .node [(0, .node [(6, .node [(7, .node [(8, .done)])])]),(6, .node [(0, .node [(7, .node [(8, .done)])]),(7, .node [(0, .node [(8, .done)])])])])]),(5, .node [(0, .node [(3, .node [(6, .node [(7, .node [(8, .done)])])]),(6, .node [(3, .node [(7, .node [(8, .done)])])])]),(3, .node [(0, .node [(6, .node [(7, .node [(8, .done)])])]),(6, .node [(0, .node [(7, .node [(8, .done)])]),(7, .node [(0, .node [(8, .done)])])])]),(6, .node [(0, .node [(3, .node [(7, .node [(8, .done)])])]),(3, .node [(0, .node [(7, .node [(8, .done)])]),(7, .node [(0, .node [(8, .done)])])])])])]),(5, .node [(0, .node [(2, .node [(3, .node [(6, .node [(7, .node [(8, .done)])])]),(6, .node [(3, .node [(7, .node [(8, .done)])])])]),(6, .node [(2, .node [(3, .node [(7, .node [(8, .done)])])])])]),(2, .node [(0, .node [(3, .node [(6, .node [(7, .node [(8, .done)])])]),(6, .node [(3, .node [(7, .node [(8, .done)])])])]),(3, .node [(0, .node [(6, .node [(7, .node [(8, .done)])])]),(6, .node [(0, .node [(7, .node [(8, .done)])]),(7, .node [(0, .node [(8, .done)])])])]),(6, .node [(0, .node [(3, .node [(7, .node [(8, .done)])])]),(3, .node [(0, .node [(7, .node [(8, .done)])]),(7, .node [(0, .node [(8, .done)])])])])]),(6, .node [(0, .node [(2, .node [(3, .node [(7, .node [(8, .done)])])])]),(2, .node [(0, .node [(3, .node [(7, .node [(8, .done)])])]),(3, .node [(0, .node [(7, .node [(8, .done)])]),(7, .node [(0, .node [(8, .done)])])])])])])])])]
def ye5:List (List Nat):=[[20,21,22,23,24,25,26],[19,21,22,23,24,25,26],[19,20,23,24,25],[19,20,23,24,25],[19,20,21,22],[19,20,21,22],[19,20,21,22],[19,20],[]]
theorem yac.cutE {P:Program} {N:Nat} {ops:Array Oper} {id:Nat} {fr:Fr} {H:Hp} {Q:Exit->Fr->Hp->Prop} (fr1:Fr) (H1:Hp) (h1:yac P N id ops fr H fun e fr' H'=>e= .normal/\Wk fr' H' fr1 H1) (h2:Q .normal fr1 H1):yac P N id ops fr H Q:=
 ⟨fun B w0 Mx w ρ a hs=>wp_mono (h1.out B w0 Mx w ρ a hs) (by
  rintro e a' w' ⟨ρ',fr',H',⟨rfl,hw⟩,hs'⟩
  obtain ⟨ρ2,hs2⟩:=hw _ _ _ _ _ _ _ hs'
  exact ⟨ρ2,fr1,H1,h2,hs2⟩)⟩
theorem yf5 {i j k:Nat} (h1:k≠i) (h2:k≠j):swI i j k=k:=by unfold swI;rw [if_neg h1,if_neg h2]
theorem y0s (i j:Nat):swI i j i=j:=by unfold swI;rw [if_pos rfl]
theorem y0t {i j:Nat} (h:j≠i):swI i j j=i:=by unfold swI;rw [if_neg h,if_pos rfl]
theorem yg7 (i j n k m:Nat) (lo:Int):swV i j (n+2) (.agg [I lo, .sl 1 k 0 m])= .agg [I lo, .sl 1 (swI i j k) 0 m]:=rfl
theorem yqr (sd:List PE) (sn:List Nat) (G:List PE) (j b:Nat) (g:PE) (cs:List Int) (hG:G.length<=900000) (hk:ybd G) (hj:G[j]?=some g) (hb:b+cs.length<=g.cs.length) (hl:g.cs.length<=1000000) (hlo: -1000000<=g.lo/\g.lo<=1000000)
  (hc1: ∀i,-1152921504606846976<=g.cs.getD i 0/\g.cs.getD i 0<=1152921504606846976) (hc2: ∀i,-1152921504606846976<=cs.getD i 0/\cs.getD i 0<=1152921504606846976) {fr fr1:Fr} {H0:Hp} {K:AV->Fr->Hp->Prop} (hfr:fr1.all (fun q=>s3 okH q.2)=true)
  (hw:Wk (frOf 0 [.str g.key,tpA (g.lo+2*(b:Int)) cs, .ptr 1000003 0]++lft fr) H0 (frOf 0 [.str g.key,tpA (g.lo+2*(b:Int)) cs, .ptr 1000003 0]++lft fr1) (swpH sd sn G))
  (hK:K (.tup []) fr1 (swpH sd sn (G.set j ⟨g.key,g.lo,adK g.cs b cs cs.length⟩))):
  ybi Tryd.prog 26 [.str g.key,tpA (g.lo+2*(b:Int)) cs, .ptr 1000003 0] fr H0 K:=by
 have hjl:j<G.length:=(List.getElem?_eq_some_iff.1 hj).1
 have hnw:max 1000001 (hnew (rwE 0 G))=1000001:=by have:=ych G 0;omega
 have hgf:=yh5 G 0 j g hk hj
 rw [Nat.zero_add] at hgf
 refine ybi.intro [] Tryd.func26 rfl rfl (by decide) (by simp [Tryd.ntmps26]) ?_;rw [Tryd.ntmps26]
 refine WpA.wk hw ?_
 repeat' (first|omega|(try apply yaa);simp only [go_sem,sevalprocAttr,hnw,hgf]|apply yae<;>(intro h_;(try simp only [h_]);revert h_)|apply yad|apply yab|apply gspI|apply And.intro|with_reducible intro h_|trivial|simp only [go_sem,la2];omega)
 refine yac.cutE (lft fr1) (swpH sd sn (G.set j ⟨g.key,g.lo,adK g.cs b cs cs.length⟩)) ?_ ?_
 ·repeat' (first|omega|(first|apply yaa|(refine yac.introE (id:=3) (ye2) (by decide+kernel) mixed ?_)|(refine yac.intro (id:=3) [[15,16,17,18],[14,16,17,18],[14,15,17],[14,15,16],[14,15],[]] [[],[0],[0,1],[0,1,2],[0,1],[]] (by decide+kernel) mixed ?_)|(refine yac.introT (id:=3) (ye3) (by decide+kernel) mixed ?_)|(refine yac.introE (id:=4) (ye4) (by decide+kernel) mixed ?_)|(refine yac.intro (id:=4) ye5 [[],[0],[0,1],[0,1],[0,1,2,3],[0,1,2,3],[0,1,2,3],[0,1],[]] (by decide+kernel) mixed ?_)|skip);simp only [go_sem,sevalprocAttr,hnw,hgf,↓reduceIte,reduceCtorEq,ye2,ye3,ye4,ye5]|apply yae<;>(intro h_;(try simp only [h_]);revert h_)|apply yad|apply yab|apply gspI|apply And.intro|with_reducible intro h_|trivial|simp only [go_sem,la2];omega)
  all_goals refine ⟨yaf.inline (yof sd sn G j b (j+10) g cs hG hj rfl hb hl hlo hc1 hc2 ?_)⟩
  all_goals (repeat' (first|omega|(first|apply yaa|(refine yac.introE (id:=3) (ye2) (by decide+kernel) mixed ?_)|(refine yac.intro (id:=3) [[15,16,17,18],[14,16,17,18],[14,15,17],[14,15,16],[14,15],[]] [[],[0],[0,1],[0,1,2],[0,1],[]] (by decide+kernel) mixed ?_)|(refine yac.introT (id:=3) (ye3) (by decide+kernel) mixed ?_)|(refine yac.introE (id:=4) (ye4) (by decide+kernel) mixed ?_)|(refine yac.intro (id:=4) ye5 [[],[0],[0,1],[0,1],[0,1,2,3],[0,1,2,3],[0,1,2,3],[0,1],[]] (by decide+kernel) mixed ?_)|skip);simp only [go_sem,sevalprocAttr,hnw,hgf,↓reduceIte,reduceCtorEq,ye2,ye3,ye4,ye5]|apply yae<;>(intro h_;(try simp only [h_]);revert h_)|apply yad|apply yab|apply gspI|apply And.intro|with_reducible intro h_|trivial|simp only [go_sem,la2];omega))
  all_goals (
   refine yqb 2000000 999999 (by omega) (by omega) (by simpa using hG) (by simp only [go_sem,sevalprocAttr]) (by simp only [go_sem,sevalprocAttr]) (by simp only [go_sem,sevalprocAttr,List.length_set];rfl) ?_ (by simp only [go_sem,sevalprocAttr]) (by simp only [go_sem,sevalprocAttr]) (by simp only [go_sem,sevalprocAttr]) (fun k g' hg=>?_) hfr (fun t ht=>?_)
   ·refine ym1 G 0 j g hk hj ?_ (fun k lo n _ h2 _=>?_)
    ·rw [yg7,yf5 (by omega) (by omega),yc9,Nat.zero_add]
    ·rw [yg7,yf5 (by omega) (by omega)]
   ·have hkl:=(List.getElem?_eq_some_iff.1 hg).1
    simp only [List.length_set] at hkl
    rw [yf5 (by omega) (by omega)]
    simp only [hget]
    repeat rw [if_neg (by omega)]
    exact rwE_row hg
   ·simp only [fget]
    repeat rw [if_neg (by omega)])
 ·repeat' (first|omega|(try apply yaa);simp only [go_sem,sevalprocAttr]|apply yae<;>(intro h_;(try simp only [h_]);revert h_)|apply yad|apply yab|apply gspI|apply And.intro|with_reducible intro h_|trivial|simp only [go_sem,la2];omega)
  all_goals exact hK
theorem yog (sd:List PE) (sn:List Nat) (G:List PE) (j a b N:Nat) (lo':Int) (g:PE) (lo:Int) (cs:List Int) (hG:G.length<=900000) (hk:ybd G) (hj:G[j]?=some g) (hga:g.lo=lo'+2*(a:Int)) (hlb:lo=lo'+2*(b:Int)) (hab:a=0\/b=0)
  (haN:a+g.cs.length<=N) (hbN:b+cs.length<=N) (hN:N=a+g.cs.length\/N=b+cs.length) (hwd:0<a\/g.cs.length+a<b+cs.length) (hN0:N<=1000000) (hlo: -1000000<=lo'/\lo'<=1000000)
  (hc1: ∀i,-1152921504606846976<=g.cs.getD i 0/\g.cs.getD i 0<=1152921504606846976) (hc2: ∀i,-1152921504606846976<=cs.getD i 0/\cs.getD i 0<=1152921504606846976) {fr fr1:Fr} {H0:Hp} {K:AV->Fr->Hp->Prop} (hfr:fr1.all (fun q=>s3 okH q.2)=true)
  (hw:Wk (frOf 0 [.str g.key,tpA lo cs, .ptr 1000003 0]++lft fr) H0 (frOf 0 [.str g.key,tpA lo cs, .ptr 1000003 0]++lft fr1) (swpH sd sn G))
  (hK:K (.tup []) fr1 (swpH sd sn (G.set j ⟨g.key,lo',adK (padL a g.cs N) b cs cs.length⟩))):
  ybi Tryd.prog 26 [.str g.key,tpA lo cs, .ptr 1000003 0] fr H0 K:=by
 have hjl:j<G.length:=(List.getElem?_eq_some_iff.1 hj).1
 have hnw:max 1000001 (hnew (rwE 0 G))=1000001:=by have:=ych G 0;omega
 have hgf:=yh5 G 0 j g hk hj
 rw [Nat.zero_add] at hgf
 refine ybi.intro [] Tryd.func26 rfl rfl (by decide) (by simp [Tryd.ntmps26]) ?_;rw [Tryd.ntmps26]
 refine WpA.wk hw ?_
 repeat' (first|omega|(try apply yaa);simp only [go_sem,sevalprocAttr,hnw,hgf]|apply yae<;>(intro h_;(try simp only [h_]);revert h_)|apply yad|apply yab|apply gspI|apply And.intro|with_reducible intro h_|trivial|simp only [go_sem,la2];omega)
 refine yac.cutE (lft fr1) (swpH sd sn (G.set j ⟨g.key,lo',adK (padL a g.cs N) b cs cs.length⟩)) ?_ ?_
 ·repeat' (first|omega|(first|apply yaa|(refine yac.introE (id:=3) (ye2) (by decide+kernel) mixed ?_)|(refine yac.intro (id:=3) [[15,16,17,18],[14,16,17,18],[14,15,17],[14,15,16],[14,15],[]] [[],[0],[0,1],[0,1,2],[0,1],[]] (by decide+kernel) mixed ?_)|(refine yac.introT (id:=3) (ye3) (by decide+kernel) mixed ?_)|(refine yac.introE (id:=4) (ye4) (by decide+kernel) mixed ?_)|(refine yac.intro (id:=4) ye5 [[],[0],[0,1],[0,1],[0,1,2,3],[0,1,2,3],[0,1,2,3],[0,1],[]] (by decide+kernel) mixed ?_)|skip);simp only [go_sem,sevalprocAttr,hnw,hgf,↓reduceIte,reduceCtorEq,ye2,ye3,ye4,ye5]|apply yae<;>(intro h_;(try simp only [h_]);revert h_)|apply yad|apply yab|apply gspI|apply And.intro|with_reducible intro h_|trivial|simp only [go_sem,la2];omega)
  all_goals refine ⟨yaf.inline (ym5 sd sn G j a b N (j+10) lo' g lo cs hG hj rfl hga hlb hab haN hbN hN hwd hN0 hlo hc1 hc2 ?_)⟩
  all_goals (repeat' (first|omega|(first|apply yaa|(refine yac.introE (id:=3) (ye2) (by decide+kernel) mixed ?_)|(refine yac.intro (id:=3) [[15,16,17,18],[14,16,17,18],[14,15,17],[14,15,16],[14,15],[]] [[],[0],[0,1],[0,1,2],[0,1],[]] (by decide+kernel) mixed ?_)|(refine yac.introT (id:=3) (ye3) (by decide+kernel) mixed ?_)|(refine yac.introE (id:=4) (ye4) (by decide+kernel) mixed ?_)|(refine yac.intro (id:=4) ye5 [[],[0],[0,1],[0,1],[0,1,2,3],[0,1,2,3],[0,1,2,3],[0,1],[]] (by decide+kernel) mixed ?_)|skip);simp only [go_sem,sevalprocAttr,hnw,hgf,↓reduceIte,reduceCtorEq,ye2,ye3,ye4,ye5]|apply yae<;>(intro h_;(try simp only [h_]);revert h_)|apply yad|apply yab|apply gspI|apply And.intro|with_reducible intro h_|trivial|simp only [go_sem,la2];omega))
  all_goals (
   refine yqb 1000010 (j+10) (by omega) (by omega) (by simpa using hG) (by simp only [go_sem,sevalprocAttr]) (by simp only [go_sem,sevalprocAttr]) (by simp only [go_sem,sevalprocAttr,List.length_set];rfl) ?_ (by simp only [go_sem,sevalprocAttr]) (by simp only [go_sem,sevalprocAttr]) (by simp only [go_sem,sevalprocAttr]) (fun k g' hg=>?_) hfr (fun t ht=>?_)
   ·refine ym1 G 0 j g hk hj ?_ (fun k lo n _ h2 h3=>?_)
    ·rw [yg7,y0s,yc9,ydj,Nat.zero_add]
    ·rw [yg7,yf5 (by omega) (by omega)]
   ·have hkl:=(List.getElem?_eq_some_iff.1 hg).1
    simp only [List.length_set] at hkl
    rw [List.getElem?_set] at hg
    by_cases e:j=k
    ·subst e
     rw [if_pos rfl,if_pos hkl] at hg
     cases hg
     rw [y0t (by omega)]
     rfl
    ·rw [if_neg e] at hg
     rw [yf5 (by omega) (by omega)]
     simp only [hget]
     repeat rw [if_neg (by omega)]
     exact rwE_row hg
   ·simp only [fget]
    repeat rw [if_neg (by omega)])
 ·repeat' (first|omega|(try apply yaa);simp only [go_sem,sevalprocAttr]|apply yae<;>(intro h_;(try simp only [h_]);revert h_)|apply yad|apply yab|apply gspI|apply And.intro|with_reducible intro h_|trivial|simp only [go_sem,la2];omega)
  all_goals exact hK
end Go.Proofs.YtmdjdekgakidhaaDoor
namespace Go.Proofs.YtmdjdekgakidhaaDoor
open Go Go.RowKit
set_option maxRecDepth 100000
set_option maxHeartbeats 8000000
set_option linter.unusedVariables false
set_option linter.unusedSimpArgs false
def yws:Tr:= .node [(1, .node [(0, .node [(2, .node [(3, .node [(4, .node [(5, .done)])])]),(3, .node [(2, .node [(4, .node [(5, .done)])])])]),(2, .node [(0, .node [(3, .node [(4, .node [(5, .done)])])]),(3, .node [(0, .node [(4, .node [(5, .done)])]),(4, .node [(0, .node [(5, .done)])])])]),(3, .node [(0, .node [(2, .node [(4, .node [(5, .done)])])]),(2, .node [(0, .node [(4, .node [(5, .done)])]),(4, .node [(0, .node [(5, .done)])])])])])]
def ywt:Tr:= .node [(0, .node [(1, .node [(2, .node [(3, .node [(4, .node [(5, .done)])])]),(3, .node [(2, .node [(4, .node [(5, .done)])])])]),(2, .node [(1, .node [(3, .node [(4, .node [(5, .done)])])]),(3, .node [(1, .node [(4, .node [(5, .done)])]),(4, .node [(1, .node [(5, .done)])])])]),(3, .node [(1, .node [(2, .node [(4, .node [(5, .done)])])]),(2, .node [(1, .node [(4, .node [(5, .done)])]),(4, .node [(1, .node [(5, .done)])])])])]),(1, .node [(0, .node [(2, .node [(3, .node [(4, .node [(5, .done)])])]),(3, .node [(2, .node [(4, .node [(5, .done)])])])]),(2, .node [(0, .node [(3, .node [(4, .node [(5, .done)])])]),(3, .node [(0, .node [(4, .node [(5, .done)])]),(4, .node [(0, .node [(5, .done)])])])]),(3, .node [(0, .node [(2, .node [(4, .node [(5, .done)])])]),(2, .node [(0, .node [(4, .node [(5, .done)])]),(4, .node [(0, .node [(5, .done)])])])])]),(2, .node [(0, .node [(1, .node [(3, .node [(4, .node [(5, .done)])])]),(3, .node [(1, .node [(4, .node [(5, .done)])]),(4, .node [(1, .node [(5, .done)])])])]),(1, .node [(0, .node [(3, .node [(4, .node [(5, .done)])])]),(3, .node [(0, .node [(4, .node [(5, .done)])]),(4, .node [(0, .node [(5, .done)])])])]),(3, .node [(0, .node [(1, .node [(4, .node [(5, .done)])]),(4, .node [(1, .node [(5, .done)])])]),(1, .node [(0, .node [(4, .node [(5, .done)])]),(4, .node [(0, .node [(5, .done)])])]),(4, .node [(0, .node [(1, .node [(5, .done)])]),(1, .node [(0, .node [(5, .done)])])])])]),(3, .node [(0, .node [(1, .node [(2, .node [(4, .node [(5, .done)])])]),(2, .node [(1, .node [(4, .node [(5, .done)])]),(4, .node [(1, .node [(5, .done)])])])]),(1, .node [(0, .node [(2, .node [(4, .node [(5, .done)])])]),(2, .node [(0, .node [(4, .node [(5, .done)])]),(4, .node [(0, .node [(5, .done)])])])]),(2, .node [(0, .node [(1, .node [(4, .node [(5, .done)])]),(4, .node [(1, .node [(5, .done)])])]),(1, .node [(0, .node [(4, .node [(5, .done)])]),(4, .node [(0, .node [(5, .done)])])]),(4, .node [(0, .node [(1, .node [(5, .done)])]),(1, .node [(0, .node [(5, .done)])])])])])]
def ywu:Tr:= .node [(1, .node [(0, .node [(2, .node [(3, .node [(4, .node [(5, .node [(6, .node [(7, .node [(8, .done)])])])])]),(4, .node [(3, .node [(5, .node [(6, .node [(7, .node [(8, .done)])])])]),(5, .node [(3, .node [(6, .node [(7, .node [(8, .done)])])]),(6, .node [(3, .node [(7, .node [(8, .done)])])])])])]),(4, .node [(2, .node [(3, .node [(5, .node [(6, .node [(7, .node [(8, .done)])])])]),(5, .node [(3, .node [(6, .node [(7, .node [(8, .done)])])]),(6, .node [(3, .node [(7, .node [(8, .done)])])])])]),(5, .node [(2, .node [(3, .node [(6, .node [(7, .node [(8, .done)])])]),(6, .node [(3, .node [(7, .node [(8, .done)])])])]),(6, .node [(2, .node [(3, .node [(7, .node [(8, .done)])])])])])])]),(2, .node [(0, .node [(3, .node [(4, .node [(5, .node [(6, .node [(7, .node [(8, .done)])])])])]),(4, .node [(3, .node [(5, .node [(6, .node [(7, .node [(8, .done)])])])]),(5, .node [(3, .node [(6, .node [(7, .node [(8, .done)])])]),(6, .node [(3, .node [(7, .node [(8, .done)])])])])])]),(3, .node [(0, .node [(4, .node [(5, .node [(6, .node [(7, .node [(8, .done)])])])])]),(4, .node [(0, .node [(5, .node [(6, .node [(7, .node [(8, .done)])])])]),(5, .node [(0, .node [(6, .node [(7, .node [(8, .done)])])]),(6, .node [(0, .node [(7, .node [(8, .done)])]),(7, .node [(0, .node [(8, .done)])])])])])]),(4, .node [(0, .node [(3, .node [(5, .node [(6, .node [(7, .node [(8, .done)])])])]),(5, .node [(3, .node [(6, .node [(7, .node [(8, .done)])])]),(6, .node [(3, .node [(7, .node [(8, .done)])])])])]),(3, .node [(0, .node [(5, .node [(6, .node [(7, .node [(8, .done)])])])]),(5, .node [(0, .node [(6, .node [(7, .node [(8, .done)])])]),(6, .node [(0, .node [(7, .node [(8, .done)])]),(7, .node [(0, .node [(8, .done)])])])])]),(5, .node [(0, .node [(3, .node [(6, .node [(7, .node [(8, .done)])])]),(6, .node [(3, .node [(7, .node [(8, .done)])])])]),(3, .node [(0, .node [(6, .node [(7, .node [(8, .done)])])]),(6, .node [(0, .node [(7, .node [(8, .done)])]),(7, .node [(0, .node [(8, .done)])])])]),(6, .node [(0, .node [(3, .node [(7, .node [(8, .done)])])]),(3, .node [(0, .node [(7, .node [(8, .done)])]),(7, .node [(0, .node [(8, .done)])])])])])])]),(4, .node [(0, .node [(2, .node [(3, .node [(5, .node [(6, .node [(7, .node [(8, .done)])])])]),(5, .node [(3, .node [(6, .node [(7, .node [(8, .done)])])]),(6, .node [(3, .node [(7, .node [(8, .done)])])])])]),(5, .node [(2, .node [(3, .node [(6, .node [(7, .node [(8, .done)])])]),(6, .node [(3, .node [(7, .node [(8, .done)])])])]),(6, .node [(2, .node [(3, .node [(7, .node [(8, .done)])])])])])]),(2, .node [(0, .node [(3, .node [(5, .node [(6, .node [(7, .node [(8, .done)])])])]),(5, .node [(3, .node [(6, .node [(7, .node [(8, .done)])])]),(6, .node [(3, .node [(7, .node [(8, .done)])])])])]),(3, .node [(0, .node [(5, .node [(6, .node [(7, .node [(8, .done)])])])]),(5, .node [(0, .node [(6, .node [(7, .node [(8, .done)])])]),(6, .node [(0, .node [(7, .node [(8, .done)])]),(7, .node [(0, .node [(8, .done)])])])])]),(5, .node [(0, .node [(3, .node [(6, .node [(7, .node [(8, .done)])])]),(6, .node [(3, .node [(7, .node [(8, .done)])])])]),(3, .node [(0, .node [(6, .node [(7, .node [(8, .done)])])]),(6, .node [(0, .node [(7, .node [(8, .done)])]),(7, .node [(0, .node [(8, .done)])])])]),(6, .node [(0, .node [(3, .node [(7, .node [(8, .done)])])]),(3, .node [(0, .node [(7, .node [(8, .done)])]),(7, .node [(0, .node [(8, .done)])])])])])]),(5, .node [(0, .node [(2, .node [(3, .node [(6, .node [(7, .node [(8, .done)])])]),(6, .node [(3, .node [(7, .node [(8, .done)])])])]),(6, .node [(2, .node [(3, .node [(7, .node [(8, .done)])])])])]),(2, .node [(0, .node [(3, .node [(6, .node [(7, .node [(8, .done)])])]),(6, .node [(3, .node [(7, .node [(8, .done)])])])]),(3, .node [(0, .node [(6, .node [(7, .node [(8, .done)])])]),(6, .node [(0, .node [(7, .node [(8, .done)])]),(7, .node [(0, .node [(8, .done)])])])]),(6, .node [(0, .node [(3, .node [(7, .node [(8, .done)])])]),(3, .node [(0, .node [(7, .node [(8, .done)])]),(7, .node [(0, .node [(8, .done)])])])])]),(6, .node [(0, .node [(2, .node [(3, .node [(7, .node [(8, .done)])])])]),(2, .node [(0, .node [(3, .node [(7, .node [(8, .done)])])]),(3, .node [(0, .node [(7, .node [(8, .done)])]),(7, .node [(0, .node [(8, .done)])])])])])])])])]
def ywv:List (List Nat):=[[20,21,22,23,24,25,26],[19,21,22,23,24,25,26],[19,20,23,24,25],[19,20,23,24,25],[19,20,21,22],[19,20,21,22],[19,20,21,22],[19,20],[]]
theorem yqs (sd:List PE) (sn:List Nat) (G:List PE) (s:ByteArray) (lo:Int) (cs:List Int) (hG:G.length<900000) (hk:ybd G) (hno: ∀g∈G,g.key≠s) (hl:cs.length<=1000000) (hl0:0<cs.length) {fr fr1:Fr} {H0:Hp} {K:AV->Fr->Hp->Prop} (hfr:fr1.all (fun q=>s3 okH q.2)=true)
  (hw:Wk (frOf 0 [.str s,tpA lo cs, .ptr 1000003 0]++lft fr) H0 (frOf 0 [.str s,tpA lo cs, .ptr 1000003 0]++lft fr1) (swpH sd sn G))
  (hK:K (.tup []) fr1 (swpH sd sn (G++[⟨s,lo,cs⟩]))):
  ybi Tryd.prog 26 [.str s,tpA lo cs, .ptr 1000003 0] fr H0 K:=by
 have hnw:max 1000001 (hnew (rwE 0 G))=1000001:=by have:=ych G 0;omega
 have hgf:=yl9 G 0 s hno
 have hok:cs.all (ybk∘AV.int .i64)=true:=List.all_eq_true.2 fun _ _=>rfl
 refine ybi.intro [] Tryd.func26 rfl rfl (by decide) (by simp [Tryd.ntmps26]) ?_;rw [Tryd.ntmps26]
 refine WpA.wk hw ?_
 repeat' (first|omega|(try apply yaa);simp only [go_sem,sevalprocAttr,hnw,hgf]|apply yae<;>(intro h_;(try simp only [h_]);revert h_)|apply yad|apply yab|apply gspI|apply And.intro|with_reducible intro h_|trivial|simp only [go_sem,la2];omega)
 refine yac.cutE (lft fr1) (swpH sd sn (G++[⟨s,lo,cs⟩])) ?_ ?_
 ·repeat' (first|omega|(first|apply yaa|(refine yac.introE (id:=3) (yws) (by decide+kernel) mixed ?_)|(refine yac.intro (id:=3) [[15,16,17,18],[14,16,17,18],[14,15,17],[14,15,16],[14,15],[]] [[],[0],[0,1],[0,1,2],[0,1],[]] (by decide+kernel) mixed ?_)|(refine yac.introT (id:=3) (ywt) (by decide+kernel) mixed ?_)|(refine yac.introE (id:=4) (ywu) (by decide+kernel) mixed ?_)|(refine yac.intro (id:=4) ywv [[],[0],[0,1],[0,1],[0,1,2,3],[0,1,2,3],[0,1,2,3],[0,1],[]] (by decide+kernel) mixed ?_)|skip);simp only [go_sem,sevalprocAttr,hnw,hgf,hok,↓reduceIte,reduceCtorEq,yws,ywt,ywu,ywv]|apply yae<;>(intro h_;(try simp only [h_]);revert h_)|apply yad|apply yab|apply gspI|apply And.intro|with_reducible intro h_|trivial|simp only [go_sem,la2];omega)
  all_goals (
   refine yqb 1000007 (G.length+10) (by omega) (by omega) (by simp;omega) (by simp only [go_sem,sevalprocAttr]) (by simp only [go_sem,sevalprocAttr]) (by simp only [go_sem,sevalprocAttr,List.length_append];rfl) ?_ (by simp only [go_sem,sevalprocAttr]) (by simp only [go_sem,sevalprocAttr]) (by simp only [go_sem,sevalprocAttr]) (fun k g' hg=>?_) hfr (fun t ht=>?_)
   ·rw [List.map_append,yjh G 0 (fun k lo n _ h2=>by rw [yg7,yf5 (by omega) (by omega)]),ysi,Nat.zero_add]
    simp only [List.map_cons,List.map_nil,yg7,y0s]
   ·have hkl:=(List.getElem?_eq_some_iff.1 hg).1
    simp only [List.length_append,List.length_cons,List.length_nil] at hkl
    by_cases e:k=G.length
    ·subst e
     rw [List.getElem?_append_right (Nat.le_refl _),Nat.sub_self] at hg
     cases hg
     rw [y0t (by omega)]
     rfl
    ·rw [List.getElem?_append_left (by omega)] at hg
     rw [yf5 (by omega) (by omega)]
     simp only [hget]
     repeat rw [if_neg (by omega)]
     exact rwE_row hg
   ·simp only [fget]
    repeat rw [if_neg (by omega)])
 ·repeat' (first|omega|(try apply yaa);simp only [go_sem,sevalprocAttr]|apply yae<;>(intro h_;(try simp only [h_]);revert h_)|apply yad|apply yab|apply gspI|apply And.intro|with_reducible intro h_|trivial|simp only [go_sem,la2];omega)
  all_goals exact hK
end Go.Proofs.YtmdjdekgakidhaaDoor
