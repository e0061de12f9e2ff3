/- Layer 12: Of, whose terms lie in new memory. -/
import Derived.Test.YtphjphpmfflfpaaGreatDoorZi
namespace Go.Proofs.YtphjphpmfflfpaaGreatDoor
open Go Go.RowKit
set_option maxHeartbeats 8000000
set_option maxRecDepth 100000
set_option linter.unusedVariables false
set_option linter.unusedSimpArgs false
theorem CG.ofP {P:Program} {f:Nat} {args:List AV} {n t id:Nat} {l:List AV} (h:oU P f args (.agg [.bool false, .sl 2 id 0 n]) [(id, .cells t (.lst l))]) (hn:l.length=n*2) (hI: ∀x∈l,∃k,x=I k):CG P f args (.agg [.bool false, .ro 2 n (.lst l)]):=by
 refine ⟨h.1,fun w Mx vs h1 h2 h3=>(h.2 w Mx vs h1 h2 h3).mono ?_⟩;rintro e w' ⟨v,ρ',rfl,hs,hv⟩;refine ⟨v,rfl,hs.below,?_⟩;have hr:=hs.objs id _ (show hget [(id,AObj.cells t (.lst l))] id=some (.cells t (.lst l)) by simp [hget]);have ho:=hs.own id _ (show hget [(id,AObj.cells t (.lst l))] id=some (.cells t (.lst l)) by simp [hget]) rfl;have aG:=hr.lt rfl;obtain ⟨g1,arr,g2,g3,g4⟩:=hr
 obtain ⟨x,k1,k2⟩:=Lr (My:=fun b=>b<w.heap.size) (ρ0:=ρ0) (c:= .lst l) (c':= .lst l) g1 g2 g3 rfl fun j hj=>by
  obtain ⟨u,q1,q2⟩:=g4 j hj;refine ⟨u,q1,?_⟩;have cO:j<l.length:=by simpa [Cs.len] using hj
  obtain ⟨k,hk⟩:=hI l[j] (List.getElem_mem cO);have e:(Cs.lst l).get j=I k:=by simp only [Cs.get,List.getD_eq_getElem?_getD,List.getElem?_eq_getElem cO,Option.getD_some,hk]
  rw [e] at q2⊢;cases q2;exact .int _ _
 cases hv with
 |agg vs xs hl hx=>
  refine .agg vs _ hl fun i v' x' hi gw=>?_
  match i,gw with
  |0,gw=>
   cases gw;have hv0:=hx 0 v' _ hi rfl;cases hv0;exact .bool _
  |1,gw=>
   cases gw;have hv0:=hx 1 v' _ hi rfl;cases hv0 with
   |sl _ _ _ _ cap hd hc bo t' ad ha hb iM=>
    refine .ro 2 n (.lst l) (some ad) cap x (by simp [Cs.len];omega) hc (by decide) (fun h0=>⟨ad,rfl,?_⟩) fun j hj=>k2 j (by simpa [Cs.len] using hj);have e:=ha (by omega);rw [show (ρ' id).add 0=ρ' id from rfl] at e;subst e;exact ⟨aG,fun hb=>by omega,fun j hj=>k1 j (by simpa [Cs.len] using hj)⟩
  |i+2,gw=>cases gw
theorem Mo (low:Int) (cs:List Int) (hl: -1000000<=low/\low+cs.length<=1000000) (hn:cs.length<=100000) (hc: ∀c∈cs,-1125899906842624<=c/\c<=1125899906842624) (az:tmI low cs≠[]):
  oU Tryz.prog 45 [I low,roI cs] (.agg [.bool false, .sl 2 3 0 (tmI low cs).length]) [(3, .cells 75 (.lst (dw (tmI low cs))))]:=by
 refine oU.intro [.cell 4 29] Tryz.func45 rfl rfl (by decide) (by simp [Tryz.ntmps45]) ?_;rw [Tryz.ntmps45]
 repeat' (first|omega|(try apply ag);simp only [go_sem,sevalprocAttr]|apply ah<;>(intro h_;(try simp only [h_]);revert h_)|apply ai|apply aj|apply ae|apply And.intro|with_reducible intro h_|trivial|simp only [go_sem,ak];omega)
 refine bV.intro (fun n fr H=> ∃k:Nat,k<=cs.length/\n=cs.length-k/\fr=[(10,I k),(9,I cs.length),(8,roI cs),(5, .ptr 1 0),(4, .ptr 0 0),(0,I low)]/\
  ((tmI low (cs.take k)=[]/\H=[(1, .cells 29 (.lst [.bool false, .nils])),(0, .cells 29 (.lst [.bool false, .nils]))])\/
   H=[(3, .cells 75 (.lst (dw (tmI low (cs.take k))))),(1, .cells 29 (.lst [.bool false, .sl 2 3 0 (tmI low (cs.take k)).length])),(0, .cells 29 (.lst [.bool false, .nils]))])) ?_ ?_
 ·refine ⟨_,_,_,?_,0,by omega,rfl,rfl, .inl ⟨by simp [tmI],rfl⟩⟩;refine Wk.sub ?_ ?_<;>simp only [go_sem,sevalprocAttr]
  all_goals simp_all
 rintro n fr H ⟨k,hk,rfl,rfl,fA⟩;have yi:=GQ low (cs.take k);rw [List.length_take] at yi;by_cases bN:k<cs.length
 ·have Ia:=hc (cs.getD k 0) (by simp [List.getD_eq_getElem?_getD,List.getElem?_eq_getElem bN]);have eT:=Hn low (cs.take k) (cs.getD k 0);rw [←Lm bN,List.length_take,show min k cs.length=k by omega] at eT;have mj:=u9 (cs.getD k 0) 1125899906842624 (by omega) (by omega);have iV:=u9 (low+k) 1048576 (by omega) (by omega);rw [Hl (by omega) (by omega)] at mj iV
  have bl:decide (1048576<low)=false:=by simp;omega
  have hlen:=ybn (tmI low (cs.take k));by_cases je:cs.getD k 0=0
  ·have bz:(cs.getD k 0==0)=true:=by simpa using je
   rw [if_pos je,List.append_nil] at eT;rcases fA with ⟨hn,rfl⟩|rfl
   ·repeat' (first|omega|(try apply ag);simp only [go_sem,sevalprocAttr,bz]|apply ah<;>(intro h_;(try simp only [h_]);revert h_)|apply ai|apply aj|apply ae|apply And.intro|with_reducible intro h_|trivial|simp only [go_sem,ak];omega)
    refine ⟨_,_,_,?_,?_,⟨k+1,by omega,rfl,rfl, .inl ⟨by rw [eT];exact hn,rfl⟩⟩⟩
    ·omega
    ·refine Wk.sub ?_ ?_<;>(simp only [go_sem,sevalprocAttr,yap])
     all_goals simp_all
   ·repeat' (first|omega|(try apply ag);simp only [go_sem,sevalprocAttr,bz]|apply ah<;>(intro h_;(try simp only [h_]);revert h_)|apply ai|apply aj|apply ae|apply And.intro|with_reducible intro h_|trivial|simp only [go_sem,ak];omega)
    refine ⟨_,_,_,?_,?_,⟨k+1,by omega,rfl,rfl, .inr rfl⟩⟩
    ·omega
    ·rw [eT];refine Wk.sub ?_ ?_<;>(simp only [go_sem,sevalprocAttr,yap])
     all_goals simp_all
  ·have bz:(cs.getD k 0==0)=false:=by rw [beq_eq_false_iff_ne];exact je
   rw [if_neg je] at eT;rcases fA with ⟨hn,rfl⟩|rfl
   ·rw [hn,List.nil_append] at eT
    repeat' (first|omega|(try apply ag);simp only [go_sem,sevalprocAttr,bz]|apply ah<;>(intro h_;(try simp only [h_]);revert h_)|apply ai|apply aj|apply ae|apply And.intro|with_reducible intro h_|trivial|simp only [go_sem,ak];omega)
    refine ⟨aA.fn rfl mj ?_⟩
    repeat' (first|omega|(try apply ag);simp only [go_sem,sevalprocAttr,bl]|apply ah<;>(intro h_;(try simp only [h_]);revert h_)|apply ai|apply aj|apply ae|apply And.intro|with_reducible intro h_|trivial|simp only [go_sem,ak];omega)
    refine ⟨aA.fn rfl iV ?_⟩
    repeat' (first|omega|(try apply ag);simp only [go_sem,sevalprocAttr]|apply ah<;>(intro h_;(try simp only [h_]);revert h_)|apply ai|apply aj|apply ae|apply And.intro|with_reducible intro h_|trivial|simp only [go_sem,ak];omega)
    refine ⟨_,_,_,?_,?_,⟨k+1,by omega,rfl,rfl, .inr rfl⟩⟩
    ·omega
    ·rw [eT];refine Wk.sub ?_ ?_<;>(simp only [go_sem,sevalprocAttr,yap])
     all_goals first|rfl|simp_all
   ·repeat' (first|omega|(try apply ag);simp only [go_sem,sevalprocAttr,bz]|apply ah<;>(intro h_;(try simp only [h_]);revert h_)|apply ai|apply aj|apply ae|apply And.intro|with_reducible intro h_|trivial|simp only [go_sem,ak];omega)
    refine ⟨aA.fn rfl mj ?_⟩
    repeat' (first|omega|(try apply ag);simp only [go_sem,sevalprocAttr,bl]|apply ah<;>(intro h_;(try simp only [h_]);revert h_)|apply ai|apply aj|apply ae|apply And.intro|with_reducible intro h_|trivial|simp only [go_sem,ak];omega)
    refine ⟨aA.fn rfl iV ?_⟩
    repeat' (first|omega|(try apply ag);simp only [go_sem,sevalprocAttr,hlen]|apply ah<;>(intro h_;(try simp only [h_]);revert h_)|apply ai|apply aj|apply ae|apply And.intro|with_reducible intro h_|trivial|simp only [go_sem,ak];omega)
    rw [zr];refine ⟨_,_,_,?_,?_,⟨k+1,by omega,rfl,rfl, .inr rfl⟩⟩
    ·omega
    ·rw [eT];refine Wk.sub ?_ ?_<;>(simp only [go_sem,sevalprocAttr,yap,List.length_append])
     all_goals simp_all
 ·obtain rfl:k=cs.length:=by omega
  rw [List.take_of_length_le (Nat.le_refl _)] at fA yi;rcases fA with ⟨hn,rfl⟩|rfl
  ·exact absurd hn az
  ·have hlen:=ybn (tmI low cs)
   repeat' (first|omega|(try apply ag);simp only [go_sem,sevalprocAttr,yfy]|apply ah<;>(intro h_;(try simp only [h_]);revert h_)|apply ai|apply aj|apply ae|apply And.intro|with_reducible intro h_|trivial|simp only [go_sem,ak];omega)
theorem Nv:CG Tryz.prog 45 [I (-2), .ro 1 5 (.ints [-1,0,0,0,-1])] (plA false [(-2,-1),(2,-1)]):=by
 have h:=CG.ofP (Mo (-2) [-1,0,0,0,-1] (by decide) (by decide) (by decide) (by decide)) (by decide) (fun x hx=>C5 hx);exact h
end Go.Proofs.YtphjphpmfflfpaaGreatDoor
