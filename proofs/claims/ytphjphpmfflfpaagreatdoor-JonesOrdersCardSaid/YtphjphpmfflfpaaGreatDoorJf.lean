/- Layer 18: the Jones polynomials of mirror images and of a renumbered diagram. -/
import Derived.Test.YtphjphpmfflfpaaGreatDoorZm
import Derived.Test.YtphjphpmfflfpaaGreatDoorFl1
import Derived.Test.YtphjphpmfflfpaaGreatDoorZn
import Derived.Test.YtphjphpmfflfpaaGreatDoorKb8
namespace Go.Proofs.YtphjphpmfflfpaaGreatDoor
open Go Go.RowKit
set_option maxRecDepth 100000
set_option maxHeartbeats 4000000
set_option linter.unusedVariables false
set_option linter.unusedSimpArgs false
theorem UO (e:Int): ∀(p:List (Int×Int)),cfL (kj p) e=cfL p (-e)
 |[]=>rfl
 |t::p=>by
  have:=UO e p
  have h:kj (t::p)=(-t.1,t.2)::kj p:=rfl;rw [h];simp only [cfL,this];by_cases h1:t.1= -e
  ·rw [if_pos (by omega),if_pos h1]
  ·rw [if_neg (by omega),if_neg h1]
theorem M1 (e:Int) (p:List (Int×Int)):cfL p.reverse e=cfL p e:=by
 induction p with
 |nil=>rfl
 |cons t p ih=>rw [List.reverse_cons,Q7,ih];simp only [cfL];omega
theorem Ww {p:List (Int×Int)} {f:Int->Int} (h:bZ p f):bZ (qj p) (fun e=>f (-e)):=by
 unfold qj;refine ⟨⟨?_,fun t ht=>?_⟩,fun e=>by rw [M1,UO,h.cf]⟩
 ·unfold kj;rw [List.pairwise_reverse,List.pairwise_map];exact h.asc.asc.imp fun fC=>by show-_< -_;omega
 ·obtain ⟨u,hu,rfl⟩:=List.mem_map.1 (List.mem_reverse.1 ht);exact h.asc.nz u hu
theorem Ow {p:List (Int×Int)} {f:Int->Int} (h:bZ p f) (hs: ∀e,f e≠0-> -1000<=e/\e<=1000):Fn Tryz.prog 19 [plA false p] (plA false (qj p)):=
 M3 p (fun t ht=>by have:=hs _ (h.mem ht).2;omega) (fun h2=>by
  have:=List.pairwise_iff_getElem.1 h.asc.asc 0 1 (by omega) h2 (by omega)
  simpa [List.getD_eq_getElem?_getD,List.getElem?_eq_getElem h2,List.getElem?_eq_getElem (show 0<p.length by omega)] using this) (by have:=h.len hs;omega)
theorem I9 (s:List Int): ∀n,bq s n=sm (fun c=>s.getD c 0) n
 |0=>rfl
 |n+1=>by simp only [bq,sm];rw [I9 s n]
theorem GZ {s s':List Int} (k:Int): ∀n,(∀c,c<n->s'.getD c 0=s.getD c 0*k)->bq s' n=bq s n*k
 |0,_=>by simp [bq]
 |n+1,h=>by simp only [bq];rw [GZ k n fun c hc=>h c (by omega),h n (by omega),Int.add_mul]
section
variable {s m:List Int} {L:Nat}
theorem RM {m m':List Int} {n:Nat} {w:Int} (hb: ∀e,aU m' n L 1 e=aU m n L 1 (-e)) (e:Int):dZ m' n L (w* -1) e=dZ m n L w (-e):=by
 unfold dZ;rw [hb,show-(e+3*(w* -1))= -e+3*w by omega];by_cases h:w % 2=0
 ·rw [if_pos h,if_pos (by omega)]
 ·rw [if_neg h,if_neg (by omega)]
theorem y2o (hv:bF s m L=true) (hs:s.length<=9) (hL:L<=20):cW (AD s m fun _=>true) s.length L (bq (pA s fun _=>true) s.length)=qj (cW m s.length L (bq s s.length)):=by
 have v1:=cK hv;have hp:=bP hv;have hw:=rh v1.sg s.length (Nat.le_refl _);have e1:bq (pA s fun _=>true) s.length=bq s s.length* -1:=GZ (-1) _ fun c hc=>by unfold pA;rw [zi hc];rfl
 have pX:=bP (Uj hv);rw [show (pA s fun _=>true).length=s.length by unfold pA;rw [sv]] at pX;rw [e1];have hj:=Ww (se (w:=bq s s.length) hp hs hL (by omega));exact ((hj.congr fun e=>(RM (Z6 hv L 1) e).symm).eq fun e he=>by have:=mL pX hs hL (by omega) he;omega).symm
theorem Yj (hv:bF s m L=true) (hs:s.length<=9) (hL:L<=20):cW (j7 m (fun h=>dB h (4-2*(h % 4))) m.length) s.length L (bq (iF s (fun _=> -1) s.length) s.length)=qj (cW m s.length L (bq s s.length)):=by
 have v1:=cK hv;have hp:=bP hv;have hw:=rh v1.sg s.length (Nat.le_refl _);have e1:bq (iF s (fun _=> -1) s.length) s.length=bq s s.length* -1:=GZ (-1) _ fun c hc=>by rw [zi hc]
 have pX:=bP (Ul hv);rw [sv] at pX;rw [e1];have hj:=Ww (se (w:=bq s s.length) hp hs hL (by omega));exact ((hj.congr fun e=>(RM (y2l hv L 1) e).symm).eq fun e he=>by have:=mL pX hs hL (by omega) he;omega).symm
theorem RK {m m':List Int} {n:Nat} {w:Int} (hb: ∀e,aU m' n L 1 e=aU m n L 1 e):cW m' n L w=cW m n L w:=by
 unfold cW;congr 1;funext e;unfold dZ;rw [hb]
theorem y2p:bq (iF s (fun _=>1) s.length) s.length=bq s s.length:=by
 have:=GZ (s:=s) (s':=iF s (fun _=>1) s.length) 1 s.length fun c hc=>zi hc
 omega
theorem Ov {o nu:Nat->Nat} (h:Ord s.length o nu):bq (sE s o s.length) s.length=bq s s.length:=by
 rw [I9,I9];rw [←xr (fun c=>s.getD c 0) o (fun x hx=>h.ol x hx) (fun x y hx hy e=>by rw [←h.no x hx,e,h.no y hy])];exact dO fun c hc=>by unfold sE;simp [List.getD_eq_getElem?_getD,List.getElem?_range hc]
end
end Go.Proofs.YtphjphpmfflfpaaGreatDoor
