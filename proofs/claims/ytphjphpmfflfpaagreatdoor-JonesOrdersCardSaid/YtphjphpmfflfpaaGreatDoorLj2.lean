/- Layer 18: the law JonesOrders. -/
import Derived.Test.YtphjphpmfflfpaaGreatDoorZp
import Derived.Test.YtphjphpmfflfpaaGreatDoorJf
import Derived.Test.YtphjphpmfflfpaaGreatDoorEq1
import Derived.Test.YtphjphpmfflfpaaGreatDoorRn1
namespace Go.Proofs.YtphjphpmfflfpaaGreatDoor
open Go Go.RowKit
set_option maxRecDepth 100000
set_option maxHeartbeats 8000000
set_option linter.unusedVariables false
set_option linter.unusedSimpArgs false
theorem Ou {o:List Int} {n:Nat} (hl:o.length=n) (h: ∀i,i<n->nO o n i=false):rf o n=true:=by
 have jh:=I8 hl h;have cn: ∀i,i<n->0<=o.getD i 0/\o.getD i 0<n:=fun i hi=>by
  have:=h i hi
  unfold nO at this;simp only [Bool.or_eq_false_iff,decide_eq_false_iff_not] at this;omega
 have inj: ∀i j,i<n->j<n->o.getD i 0=o.getD j 0->i=j:=fun i j hi hj e=>by
  have h1:=jh.no i hi;have h2:=jh.no j hj;simp only [e] at h1;rw [←h1,h2]
 refine SZ ⟨?_,fun x hx=>?_⟩ hl
 ·rw [List.Nodup,List.pairwise_iff_getElem];intro i j hi hj eK e
  have:=inj i j (by omega) (by omega) (by simp [List.getD_eq_getElem?_getD,hi,hj,e])
  omega
 ·obtain ⟨k,hk,rfl⟩:=List.mem_iff_getElem.1 hx
  have:=cn k (by omega)
  simpa [List.getD_eq_getElem?_getD,hk] using this
theorem yss (s m:List Int) (L:Int) (o:List Int):Fn Tryz.prog 5 [dgA s m L,roI o] (.bool true):=by
 have hA:=Dw;have hF:=Bz s m L;cases hf:uD s m L with
 |false=>
  rw [hf] at hF;refine Fn.intro [.tmp 4] Tryz.func5 rfl rfl (by decide) (by simp [Tryz.ntmps5]) ?_;rw [Tryz.ntmps5]
  repeat' (first|omega|(try apply ag);simp only [go_sem,sevalprocAttr,hA]|(refine ⟨aA.fn (r:=?_) rfl ?_ ?_⟩;rotate_left;assumption)|(refine ⟨bC.fn (r:=?_) rfl ?_ ?_⟩;rotate_left;assumption)|apply ah<;>(intro h_;(try simp only [h_]);revert h_)|apply ai|apply aj|apply ae|apply And.intro|with_reducible intro h_|trivial|simp only [go_sem,ak];omega)
 |true=>
  rw [hf] at hF;by_cases ho:18<o.length
  ·have b0:decide ((18:Int)<o.length)=true:=by rw [decide_eq_true_iff];omega
   refine Fn.intro [.tmp 4] Tryz.func5 rfl rfl (by decide) (by simp [Tryz.ntmps5]) ?_;rw [Tryz.ntmps5]
   repeat' (first|omega|(try apply ag);simp only [go_sem,sevalprocAttr,b0]|(refine ⟨aA.fn (r:=?_) rfl ?_ ?_⟩;rotate_left;assumption)|(refine ⟨bC.fn (r:=?_) rfl ?_ ?_⟩;rotate_left;assumption)|apply ah<;>(intro h_;(try simp only [h_]);revert h_)|apply ai|apply aj|apply ae|apply And.intro|with_reducible intro h_|trivial|simp only [go_sem,ak];omega)
  ·have b0:decide ((18:Int)<o.length)=false:=by rw [decide_eq_false_iff_not];omega
   obtain ⟨hs,l,rfl,hl,hv,az⟩:=xu hf;have off:Fn Tryz.prog 35 [dgA s m l,roI o] (.tup [QP,I 2])->Fn Tryz.prog 5 [dgA s m l,roI o] (.bool true):=fun hR=>by
    refine Fn.intro [.tmp 4] Tryz.func5 rfl rfl (by decide) (by simp [Tryz.ntmps5]) ?_;rw [Tryz.ntmps5]
    repeat' (first|omega|(try apply ag);simp only [go_sem,sevalprocAttr,b0]|(refine ⟨aA.fn (r:=?_) rfl ?_ ?_⟩;rotate_left;assumption)|(refine ⟨bC.fn (r:=?_) rfl ?_ ?_⟩;rotate_left;assumption)|apply ah<;>(intro h_;(try simp only [h_]);revert h_)|apply ai|apply aj|apply ae|apply And.intro|with_reducible intro h_|trivial|simp only [go_sem,ak];omega)
   by_cases dd:o.length=s.length
   ·rcases RH o s.length s.length with h|⟨k,h1,h2,h3⟩
    ·have hR:=Yy s m l o hv dd h;have jh:=I8 dd h;have PC:=Ou dd h;have hp:=bP hv;have v1:=cK hv;have sI:=rh v1.sg s.length (Nat.le_refl _);have hP:=pJ s m l hs (by omega) hv az;have vW:=Ox hv jh;have lW:(sE s (fun i=>(o.getD i 0).toNat) s.length).length=s.length:=by simp [sE]
     have pW:=pJ _ _ l (by rw [lW];exact hs) (by omega) vW (by rw [lW];exact az);rw [lW,Ov jh,RK (DW hv jh l 1)] at pW;have hB:=Ue s m l o hs (by omega) hv PC az;have hW:=Th s m l hv;have Fu:bZ (gP m s.length l) (aU m s.length l 1):=pH fun e he=>oW hp hs (by omega) (by omega) he;generalize bq s s.length=w at*;have hj:=se (w:=w) hp hs (show l<=20 by omega) (by omega)
     have iK: ∀e,dZ m s.length l w e≠0-> -1000<=e/\e<=1000:=fun e he=>by have:=mL hp hs (by omega) (by omega) he;omega
     have hlen:=hj.len iK;have qE:=BP (cW m s.length l w) (by omega);obtain ⟨h1,hS⟩:=Hc (-3*w) (by omega) Fu fun e he=>oW hp hs (by omega) (by omega) he;have QH: ∀e,aU m s.length l 1 (e- -3*w)≠0-> -1000<=e/\e<=1000:=fun e he=>by have:=Jt hp hs (by omega) he;omega
     obtain ⟨q,h2,hN⟩:=Vp h1 QH fun e=>by have:=zm hp hs (show l<=20 by omega) (j:=1) (by omega) (e- -3*w);omega
     generalize sE s (fun i=>(o.getD i 0).toNat) s.length=s' at*;generalize xP m (fun i=>(o.getD i 0).toNat) (fun c=>((iv o s.length s.length).getD c 0).toNat) s.length=m' at*;by_cases iV:w % 2=0
     ·have e1:im (-3*w) (gP m s.length l)=cW m s.length l w:=(h1.congr fun e=>by unfold dZ;rw [if_pos iV,Int.one_mul,show e- -3*w=e+3*w by omega]).eq iK;rw [e1] at hS;have b1:(w.tmod 2 !=0)=false:=by rw [bne_eq_false_iff_eq];exact Int.tmod_eq_zero_of_dvd (by omega)
      generalize gP m s.length l=p at*;generalize cW m s.length l w=p' at*;refine Fn.intro [.tmp 4] Tryz.func5 rfl rfl (by decide) (by simp [Tryz.ntmps5]) ?_;rw [Tryz.ntmps5]
      repeat' (first|omega|(try apply ag);simp only [go_sem,sevalprocAttr,b0,b1]|(refine ⟨aA.fn (r:=?_) rfl ?_ ?_⟩;rotate_left;assumption)|(refine ⟨bC.fn (r:=?_) rfl ?_ ?_⟩;rotate_left;assumption)|apply ah<;>(intro h_;(try simp only [h_]);revert h_)|apply ai|apply aj|apply ae|apply And.intro|with_reducible intro h_|trivial|simp only [go_sem,ak];omega)
     ·have e1:q=cW m s.length l w:=(h2.congr fun e=>by unfold dZ;rw [if_neg iV,show e- -3*w=e+3*w by omega];omega).eq iK;rw [e1] at hN;have b1:(w.tmod 2 !=0)=true:=by rw [bne_iff_ne];intro h;exact iV (Int.emod_eq_zero_of_dvd (Int.dvd_of_tmod_eq_zero h))
      generalize im (-3*w) (gP m s.length l)=p'' at*;generalize gP m s.length l=p at*;generalize cW m s.length l w=p' at*;refine Fn.intro [.tmp 4] Tryz.func5 rfl rfl (by decide) (by simp [Tryz.ntmps5]) ?_;rw [Tryz.ntmps5]
      repeat' (first|omega|(try apply ag);simp only [go_sem,sevalprocAttr,b0,b1]|(refine ⟨aA.fn (r:=?_) rfl ?_ ?_⟩;rotate_left;assumption)|(refine ⟨bC.fn (r:=?_) rfl ?_ ?_⟩;rotate_left;assumption)|apply ah<;>(intro h_;(try simp only [h_]);revert h_)|apply ai|apply aj|apply ae|apply And.intro|with_reducible intro h_|trivial|simp only [go_sem,ak];omega)
    ·exact off (YE s m l o hv dd k h1 h2 h3)
   ·exact off (YB s m l o hv dd (by omega))
end Go.Proofs.YtphjphpmfflfpaaGreatDoor
