/- Layer 12: Neg and Shift. -/
import Derived.Test.YtphjphpmfflfpaaGreatDoorZl
import Derived.Test.YtphjphpmfflfpaaGreatDoorZb
import Derived.Test.YtphjphpmfflfpaaGreatDoorGb
import Derived.Test.YtphjphpmfflfpaaGreatDoorZf
import Derived.Test.YtphjphpmfflfpaaGreatDoorZj
import Derived.Test.YtphjphpmfflfpaaGreatDoorZg
set_option linter.unusedSimpArgs false
set_option linter.unusedVariables false
namespace Go.Proofs.YtphjphpmfflfpaaGreatDoor
open Go Go.RowKit
set_option maxRecDepth 100000
set_option maxHeartbeats 8000000
def uX:List (List Nat):=[[],[],[],[],[],[52,53,54,55,56],[52,53,54,55,56],[52,53,54,55,56],[52,53,54,55,56],[52,53,54,55,56],[47,48,49,50,51],[47,48,49,50,51],[47,48,49,50,51],[47,48,49,50,51],[47,48,49,50,51],[],[]]
def uR:List (List Nat):=[[],[],[],[],[],[],[],[],[],[],[5,6,7,8,9],[5,6,7,8,9],[5,6,7,8,9],[5,6,7,8,9],[5,6,7,8,9],[],[]]
theorem Nf (a b:Int) (h3: -1125899906842624<=b) (h4:b<=1125899906842624):Fn Tryz.prog 97 [I a,I b] (I (mU a b)):=by
 unfold mU;refine Fn.intro [.tmp 4] Tryz.func97 rfl rfl (by decide) (by simp [Tryz.ntmps97]) ?_;rw [Tryz.ntmps97]
 repeat' (first|omega|(try apply ag);simp only [go_sem,sevalprocAttr]|apply ah<;>(intro h_;(try simp only [h_]);revert h_)|apply ai|apply aj|apply ae|apply And.intro|with_reducible intro h_|trivial|simp only [go_sem,ak];omega)
theorem Mb (q:List (Int×Int)) (hq:uE q) (Cm:q.length<=500000) (cZ:pE (mrg mU [] q)=true):Fn Tryz.prog 39 [plA false q] (plA false (nz (mrg mU [] q))):=by
 have hc:=TU [] q 97 mU (fun _ h=>by cases h) hq (by simp) Cm (fun a b h1 h2 h3 h4=>Nf a b h3 h4);rw [if_pos cZ] at hc;have wT:=hc.arg (args':=[.agg [.bool false, .nils],plA false q, .fn 97 []]) (.cons (aR.js (.cons (aR.refl _) (.cons (aR.nils (by omega) rfl) .nil))) (.cons (aR.refl _) (.cons (aR.refl _) .nil)))
 refine Fn.intro [.cell 2 29] Tryz.func39 rfl rfl (by decide) (by simp [Tryz.ntmps39]) ?_;rw [Tryz.ntmps39]
 repeat' (first|omega|(try apply ag);simp only [go_sem,sevalprocAttr]|apply ah<;>(intro h_;(try simp only [h_]);revert h_)|apply ai|apply aj|apply ae|apply And.intro|with_reducible intro h_|trivial|simp only [go_sem,ak];omega)
 refine ⟨aA.fn rfl wT ?_⟩
 repeat' (first|omega|(try apply ag);simp only [go_sem,sevalprocAttr]|apply ah<;>(intro h_;(try simp only [h_]);revert h_)|apply ai|apply aj|apply ae|apply And.intro|with_reducible intro h_|trivial|simp only [go_sem,ak];omega)
theorem y51 (e ke:Int) (h1: -1125899906842624<=e) (h2:e<=1125899906842624) (h3: -1125899906842624<=ke) (h4:ke<=1125899906842624):Fn Tryz.prog 95 [I e, .rp (.lst [I ke]) 0] (I (e+ke)):=by
 refine Fn.intro [.tmp 3] Tryz.func95 rfl rfl (by decide) (by simp [Tryz.ntmps95]) ?_;rw [Tryz.ntmps95]
 repeat' (first|omega|(try apply ag);simp only [go_sem,sevalprocAttr]|apply ah<;>(intro h_;(try simp only [h_]);revert h_)|apply ai|apply aj|apply ae|apply And.intro|with_reducible intro h_|trivial|simp only [go_sem,ak];omega)
theorem y52 (p:List (Int×Int)) (k:Int) (jG: -1048576<=k) (rQ:k<=1048576) (hp: ∀t∈p,-1048576<=t.1/\t.1<=1048576) (hf: ∀t∈p,gC (t.1+k) 1048576=true) (qg:1<p.length->(p.getD 0 (0,0)).1<=(p.getD 1 (0,0)).1) (hl:p.length<=500000):
  Fn Tryz.prog 68 [plA false p, .fn 95 [.rp (.lst [I k]) 0]] (plA false (im k p)):=by
 refine Fn.aq [.cell 4 29] Tryz.func68 rfl rfl (by decide) (by simp [Tryz.ntmps68]) ?_;rw [Tryz.ntmps68]
 repeat' (first|omega|(try apply ag);simp only [go_sem,sevalprocAttr]|apply ah<;>(intro h_;(try simp only [h_]);revert h_)|apply ai|apply aj|apply ae|apply And.intro|with_reducible intro h_|trivial|simp only [go_sem,ak];omega)
 refine bV.intro (fun n fr H=> ∃i:Nat,i<=p.length/\n=p.length-i/\fr=[(20,I i),(19,I p.length),(18,tmA p),(5, .ptr 3 0),(4, .ptr 1 0),(2, .ptr 0 0),(1, .fn 95 [.rp (.lst [I k]) 0])]/\H=[(3, .cells 29 (.lst [.bool false, .sl 2 2 0 i])),(2, .cells 75 (.lst (dw (im k (p.take i))))),(1, .cells 29 (.lst [.bool false, .nils])),(0, .cells 29 (.lst [.bool false,tmA p]))]) ?_ ?_
 ·refine ⟨_,_,_,?_,0,by omega,rfl,rfl,rfl⟩;refine Wk.sub ?_ ?_<;>simp only [go_sem,sevalprocAttr]
  all_goals simp [im,dw]
 rintro n fr H ⟨i,hi,rfl,rfl,rfl⟩;by_cases fi:i<p.length
 ·have t0:=l7 p i fi;have t1:=qt p i fi;have hm:p.getD i (0,0)∈p:=by simp [fi]
  have bi:decide ((i:Int)<p.length)=true:=by simp;omega
  have aC:=hp _ hm;have hs:=y51 (p.getD i (0,0)).1 k (by omega) (by omega) (by omega) (by omega);have hw:=u9 ((p.getD i (0,0)).1+k) 1048576 (by omega) (by omega);rw [hf _ hm] at hw
  repeat' (first|omega|(first|apply ag|(refine an.intro (id:=12) uX uR (by decide+kernel) mixed ?_)|skip);simp only [go_sem,sevalprocAttr,t0,t1,bi,↓reduceIte,reduceCtorEq,uX,uR]|apply ah<;>(intro h_;(try simp only [h_]);revert h_)|apply ai|apply aj|apply ae|apply And.intro|with_reducible intro h_|trivial|simp only [go_sem,ak];omega)
  refine ⟨aA.fn rfl hs ?_⟩
  repeat' (first|omega|(first|apply ag|(refine an.intro (id:=12) uX uR (by decide+kernel) mixed ?_)|skip);simp only [go_sem,sevalprocAttr,t0,t1,bi,↓reduceIte,reduceCtorEq,uX,uR]|apply ah<;>(intro h_;(try simp only [h_]);revert h_)|apply ai|apply aj|apply ae|apply And.intro|with_reducible intro h_|trivial|simp only [go_sem,ak];omega)
  refine ⟨aA.fn rfl hw ?_⟩
  repeat' (first|omega|(first|apply ag|(refine an.intro (id:=12) uX uR (by decide+kernel) mixed ?_)|skip);simp only [go_sem,sevalprocAttr,t0,t1,bi,↓reduceIte,reduceCtorEq,uX,uR]|apply ah<;>(intro h_;(try simp only [h_]);revert h_)|apply ai|apply aj|apply ae|apply And.intro|with_reducible intro h_|trivial|simp only [go_sem,ak];omega)
  ·simp [im];omega
  refine ⟨_,_,_,?_,?_,⟨i+1,by omega,rfl,rfl,rfl⟩⟩
  ·omega
  ·have e:im k (p.take (i+1))=im k (p.take i)++[((p.getD i (0,0)).1+k,(p.getD i (0,0)).2)]:=by
    unfold im;rw [List.take_add_one,List.map_append,List.getElem?_eq_getElem fi];simp [fi]
   rw [zr,←e];refine Wk.sub ?_ ?_<;>simp only [go_sem,sevalprocAttr]
 ·obtain rfl:i=p.length:=by omega
  rw [List.take_length];have bi:decide ((p.length:Int)<p.length)=false:=by simp
  have hle:(im k p).length=p.length:=by simp [im]
  by_cases h2:1<p.length
  ·have t0:=l7 (im k p) 0 (by omega);have t1:=l7 (im k p) 1 (by omega);have b2:decide ((1:Int)<p.length)=true:=by simp;omega
   have b3:decide (((im k p).getD 1 (0,0)).1<((im k p).getD 0 (0,0)).1)=false:=by
    have:=qg h2
    unfold im
    match p,h2 with
    |x::y::r,_=>simp at this⊢;omega
   repeat' (first|omega|(first|apply ag|(refine an.intro (id:=12) uX uR (by decide+kernel) mixed ?_)|skip);simp only [go_sem,sevalprocAttr,t0,t1,bi,b2,b3,↓reduceIte,reduceCtorEq,uX,uR]|apply ah<;>(intro h_;(try simp only [h_]);revert h_)|apply ai|apply aj|apply ae|apply And.intro|with_reducible intro h_|trivial|simp only [go_sem,ak];omega)
   all_goals (rw [List.take_of_length_le (by rw [ybn,hle];omega),hle];exact aR.refl _)
  ·have b2:decide ((1:Int)<p.length)=false:=by simp;omega
   repeat' (first|omega|(first|apply ag|(refine an.intro (id:=12) uX uR (by decide+kernel) mixed ?_)|skip);simp only [go_sem,sevalprocAttr,bi,b2,↓reduceIte,reduceCtorEq,uX,uR]|apply ah<;>(intro h_;(try simp only [h_]);revert h_)|apply ai|apply aj|apply ae|apply And.intro|with_reducible intro h_|trivial|simp only [go_sem,ak];omega)
   all_goals (rw [List.take_of_length_le (by rw [ybn,hle];omega),hle];exact aR.refl _)
theorem Zx (p:List (Int×Int)) (k:Int) (jG: -1048576<=k) (rQ:k<=1048576) (hp: ∀t∈p,-1048576<=t.1/\t.1<=1048576) (hf: ∀t∈p,gC (t.1+k) 1048576=true) (qg:1<p.length->(p.getD 0 (0,0)).1<=(p.getD 1 (0,0)).1) (hl:p.length<=500000):
  Fn Tryz.prog 38 [plA false p,I k] (plA false (im k p)):=by
 have hm:=y52 p k jG rQ hp hf qg hl;have hw:=u9 k 2097152 (by omega) (by omega);rw [show gC k 2097152=true by unfold gC;simp;omega] at hw;refine Fn.intro [.cell 4 29] Tryz.func38 rfl rfl (by decide) (by simp [Tryz.ntmps38]) ?_;rw [Tryz.ntmps38]
 repeat' (first|omega|(try apply ag);simp only [go_sem,sevalprocAttr]|apply ah<;>(intro h_;(try simp only [h_]);revert h_)|apply ai|apply aj|apply ae|apply And.intro|with_reducible intro h_|trivial|simp only [go_sem,ak];omega)
 refine ⟨aA.fn rfl hw ?_⟩
 repeat' (first|omega|(try apply ag);simp only [go_sem,sevalprocAttr]|apply ah<;>(intro h_;(try simp only [h_]);revert h_)|apply ai|apply aj|apply ae|apply And.intro|with_reducible intro h_|trivial|simp only [go_sem,ak];omega)
 refine ⟨aA.ln [1] rfl (by simp only [go_sem,sevalprocAttr]) (by simp only [go_sem,sevalprocAttr]) (by simp only [go_sem,sevalprocAttr]) (by simp only [go_sem,sevalprocAttr]) rfl rfl rfl (aA.fn rfl hm ?_)⟩
 repeat' (first|omega|(try apply ag);simp only [go_sem,sevalprocAttr]|apply ah<;>(intro h_;(try simp only [h_]);revert h_)|apply ai|apply aj|apply ae|apply And.intro|with_reducible intro h_|trivial|simp only [go_sem,ak];omega)
def xb:List (List Nat):=[[13,14,4],[12,4],[12,4],[4],[4],[17,4],[16,4],[12,13,14,15,11,16,17],[17],[]]
def dZ (m:List Int) (n L:Nat) (w e:Int):Int:=(if w % 2=0 then 1 else-1)*aU m n L 1 (e+3*w)
def cW (m:List Int) (n L:Nat) (w:Int):List (Int×Int):=dN (dZ m n L w)
theorem rh {s:List Int} (hs:ru s s.length): ∀c,c<=s.length-> -(c:Int)<=bq s c/\bq s c<=c:=fun c=>by
 induction c with
 |zero=>intro _;simp [bq]
 |succ c ih=>
  intro hc
  have:=ih (by omega)
  have:=hs c (by omega)
  simp only [bq];omega
theorem Jt {m:List Int} {n L:Nat} (hp:aE m n) (hn:n<=9) (hL:L<=20) {e:Int} (he:aU m n L 1 e≠0): -100<=e/\e<=100:=by
 have h1:=uZ hp he;have h2:=qq hp (fun _=>true);have h3:=qq hp (fun _=>false);omega
theorem mL {m:List Int} {n L:Nat} {w:Int} (hp:aE m n) (hn:n<=9) (hL:L<=20) (hw: -9<=w/\w<=9) {e:Int} (he:dZ m n L w e≠0): -200<=e/\e<=200:=by
 have:=Jt hp hn hL (e:=e+3*w) (fun h=>he (by unfold dZ;rw [h];omega))
 omega
theorem CZ {m:List Int} {n L:Nat} {w:Int} (hp:aE m n) (hn:n<=9) (hL:L<=20) (e:Int): -70368744177664<=dZ m n L w e/\dZ m n L w e<=70368744177664:=by
 have:=zm hp hn hL (j:=1) (by omega) (e+3*w)
 unfold dZ;split<;>omega
theorem se {m:List Int} {n L:Nat} {w:Int} (hp:aE m n) (hn:n<=9) (hL:L<=20) (hw: -9<=w/\w<=9):bZ (cW m n L w) (dZ m n L w):=pH fun e he=>by have:=mL hp hn hL hw he;omega
theorem Vq (k:Int): ∀(p:List (Int×Int)) (e:Int),cfL (im k p) e=cfL p (e-k)
 |[],_=>rfl
 |t::p,e=>by
  have ih:=Vq k p e;rw [show im k (t::p)=(t.1+k,t.2)::im k p from rfl];simp only [cfL];by_cases h:t.1=e-k
  ·rw [if_pos (by omega),if_pos h,ih]
  ·rw [if_neg (by omega),if_neg h,ih]
theorem Hc {p:List (Int×Int)} {f:Int->Int} (k:Int) (hk: -1000<=k/\k<=1000) (h:bZ p f) (hs: ∀e,f e≠0-> -1000<=e/\e<=1000):
  bZ (im k p) (fun e=>f (e-k))/\Fn Tryz.prog 38 [plA false p,I k] (plA false (im k p)):=by
 have hr: ∀t∈p,-1000<=t.1/\t.1<=1000:=fun t ht=>hs _ (h.mem ht).2;refine ⟨⟨⟨?_,fun t ht=>?_⟩,fun e=>by rw [Vq,h.cf]⟩,Zx p k (by omega) (by omega) (fun t ht=>by have:=hr t ht;omega) (fun t ht=>by have:=hr t ht;unfold gC;simp;omega) (fun h2=>?_) (by have:=h.len hs;omega)⟩
 ·unfold im;rw [List.pairwise_map];exact h.asc.asc.imp fun fC=>by show _<_;omega
 ·obtain ⟨u,hu,rfl⟩:=List.mem_map.1 ht;exact h.asc.nz u hu
 ·have:=List.pairwise_iff_getElem.1 h.asc.asc 0 1 (by omega) h2 (by omega)
  simp only [List.getD_eq_getElem?_getD,List.getElem?_eq_getElem h2,List.getElem?_eq_getElem (show 0<p.length by omega),Option.getD_some];omega
theorem Vp {p:List (Int×Int)} {f:Int->Int} (h:bZ p f) (hs: ∀e,f e≠0-> -1000<=e/\e<=1000) (hb: ∀e,-1125899906842624<=f e/\f e<=1125899906842624):
  ∃q,bZ q (fun e=> -f e)/\Fn Tryz.prog 39 [plA false p] (plA false q):=by
 have ha:=Q5 mU [] p .nil h.asc.asc;refine ⟨_,⟨Vt ha,fun e=>?_⟩,Mb p (h.fits hb) (by have:=h.len hs;omega) ?_⟩
 ·rw [Vu,Ka mU rfl [] p .nil h.asc.asc,h.cf];rfl
 ·unfold pE;refine List.all_eq_true.2 fun t ht=>?_;have h1:=Sr ha ht;rw [Ka mU rfl [] p .nil h.asc.asc,h.cf] at h1;have h2:=hb t.1;rw [←h1];unfold gC mU;simp;omega
theorem pJ (s m:List Int) (L:Nat) (hs:s.length<=9) (hL:L<=20) (hv:bF s m L=true) (az: ¬(s.length=0/\L=0)):Fn Tryz.prog 23 [dgA s m L] (.tup [plA false (cW m s.length L (bq s s.length)),I 0]):=by
 have hV:=l8 s m L;rw [hv] at hV;have v1:=cK hv;have hp:=bP hv;have hO:=Zz s m L (by omega);rw [if_pos hv] at hO;have dd:=G8 m s.length s.length;have PC:=SZ (J0 m s.length s.length (Nat.le_refl _)) dd;have hB:=Ue s m L _ hs hL hv PC az;have hW:=Th s m L hv;have sI:=rh v1.sg s.length (Nat.le_refl _)
 have Fu:bZ (gP m s.length L) (aU m s.length L 1):=pH fun e he=>oW hp hs hL (by omega) he;generalize bq s s.length=w at*;obtain ⟨h1,hS⟩:=Hc (-3*w) (by omega) Fu fun e he=>oW hp hs hL (by omega) he;have QH: ∀e,aU m s.length L 1 (e- -3*w)≠0-> -1000<=e/\e<=1000:=fun e he=>by have:=Jt hp hs hL he;omega
 obtain ⟨q,h2,hN⟩:=Vp h1 QH fun e=>by have:=zm hp hs hL (j:=1) (by omega) (e- -3*w);omega
 have iK: ∀e,dZ m s.length L w e≠0-> -1000<=e/\e<=1000:=fun e he=>by have:=mL hp hs hL (by omega) he;omega
 generalize gP m s.length L=p at*;generalize jD m s.length s.length=o at*;by_cases iV:w % 2=0
 ·have e1:im (-3*w) p=cW m s.length L w:=(h1.congr fun e=>by unfold dZ;rw [if_pos iV,Int.one_mul,show e- -3*w=e+3*w by omega]).eq iK;rw [e1] at hS;have b1:(w.tmod 2 !=0)=false:=by rw [bne_eq_false_iff_eq];exact Int.tmod_eq_zero_of_dvd (by omega)
  refine Fn.aq [.cell 2 29, .tmp 3] Tryz.func23 rfl rfl (by decide) (by simp [Tryz.ntmps23]) ?_;rw [Tryz.ntmps23]
  repeat' (first|omega|(first|apply ag|(refine an.intro (id:=3) xb [[],[0],[0],[],[],[],[5],[0,1,2,3,4,5,6],[6],[]] (by decide+kernel) mixed ?_)|skip);simp only [go_sem,sevalprocAttr,↓reduceIte,reduceCtorEq,xb]|apply ah<;>(intro h_;(try simp only [h_]);revert h_)|apply ai|apply aj|apply ae|apply And.intro|with_reducible intro h_|trivial|simp only [go_sem,ak];omega)
  refine ⟨aA.fn rfl hV ?_⟩
  repeat' (first|omega|(first|apply ag|(refine an.intro (id:=3) xb [[],[0],[0],[],[],[],[5],[0,1,2,3,4,5,6],[6],[]] (by decide+kernel) mixed ?_)|skip);simp only [go_sem,sevalprocAttr,↓reduceIte,reduceCtorEq,xb]|apply ah<;>(intro h_;(try simp only [h_]);revert h_)|apply ai|apply aj|apply ae|apply And.intro|with_reducible intro h_|trivial|simp only [go_sem,ak];omega)
  refine ⟨bC.fn rfl hO ?_⟩;simp only [go_sem,sevalprocAttr];refine ⟨bC.fn rfl hB ?_⟩;simp only [go_sem,sevalprocAttr]
  repeat' (first|omega|(try apply ag);simp only [go_sem,sevalprocAttr,b1]|(refine ⟨aA.fn (r:=?_) rfl ?_ ?_⟩;rotate_left;assumption)|(refine ⟨bC.fn (r:=?_) rfl ?_ ?_⟩;rotate_left;assumption)|apply ah<;>(intro h_;(try simp only [h_]);revert h_)|apply ai|apply aj|apply ae|apply And.intro|with_reducible intro h_|trivial|simp only [go_sem,ak];omega)
  all_goals exact aR.refl _
 ·have e1:q=cW m s.length L w:=(h2.congr fun e=>by unfold dZ;rw [if_neg iV,show e- -3*w=e+3*w by omega];omega).eq iK;rw [e1] at hN;have b1:(w.tmod 2 !=0)=true:=by rw [bne_iff_ne];intro h;exact iV (Int.emod_eq_zero_of_dvd (Int.dvd_of_tmod_eq_zero h))
  refine Fn.aq [.cell 2 29, .tmp 3] Tryz.func23 rfl rfl (by decide) (by simp [Tryz.ntmps23]) ?_;rw [Tryz.ntmps23]
  repeat' (first|omega|(first|apply ag|(refine an.intro (id:=3) xb [[],[0],[0],[],[],[],[5],[0,1,2,3,4,5,6],[6],[]] (by decide+kernel) mixed ?_)|skip);simp only [go_sem,sevalprocAttr,↓reduceIte,reduceCtorEq,xb]|apply ah<;>(intro h_;(try simp only [h_]);revert h_)|apply ai|apply aj|apply ae|apply And.intro|with_reducible intro h_|trivial|simp only [go_sem,ak];omega)
  refine ⟨aA.fn rfl hV ?_⟩
  repeat' (first|omega|(first|apply ag|(refine an.intro (id:=3) xb [[],[0],[0],[],[],[],[5],[0,1,2,3,4,5,6],[6],[]] (by decide+kernel) mixed ?_)|skip);simp only [go_sem,sevalprocAttr,↓reduceIte,reduceCtorEq,xb]|apply ah<;>(intro h_;(try simp only [h_]);revert h_)|apply ai|apply aj|apply ae|apply And.intro|with_reducible intro h_|trivial|simp only [go_sem,ak];omega)
  refine ⟨bC.fn rfl hO ?_⟩;simp only [go_sem,sevalprocAttr];refine ⟨bC.fn rfl hB ?_⟩;simp only [go_sem,sevalprocAttr]
  repeat' (first|omega|(try apply ag);simp only [go_sem,sevalprocAttr,b1]|(refine ⟨aA.fn (r:=?_) rfl ?_ ?_⟩;rotate_left;assumption)|(refine ⟨bC.fn (r:=?_) rfl ?_ ?_⟩;rotate_left;assumption)|apply ah<;>(intro h_;(try simp only [h_]);revert h_)|apply ai|apply aj|apply ae|apply And.intro|with_reducible intro h_|trivial|simp only [go_sem,ak];omega)
  all_goals exact aR.refl _
section
variable {P:Program} {B:Nat} {w0:ja} {Mx:Nat->Prop} {N:Nat}
end
def nk (a b:Int):Int:=if a<b then-1 else if b<a then 1 else 0
theorem Sl (a:Int):Fn Tryz.prog 159 [I a] (.bool false):=by
 have h:(a !=a)=false:=by simp
 refine Fn.intro [.tmp 2] Tryz.func159 rfl rfl (by decide) (by simp [Tryz.ntmps159]) ?_;rw [Tryz.ntmps159]
 repeat' (first|omega|(try apply ag);simp only [go_sem,sevalprocAttr,h]|apply ah<;>(intro h_;(try simp only [h_]);revert h_)|apply ai|apply aj|apply ae|apply And.intro|with_reducible intro h_|trivial|simp only [go_sem,ak];omega)
theorem y2h (a b:Int):Fn Tryz.prog 116 [I a,I b] (I (nk a b)):=by
 have ha:=Sl a;have hb:=Sl b;unfold nk;by_cases h1:a<b
 ·rw [if_pos h1];have b1:decide (a<b)=true:=by simpa using h1
  refine Fn.intro [.tmp 4] Tryz.func116 rfl rfl (by decide) (by simp [Tryz.ntmps116]) ?_;rw [Tryz.ntmps116]
  repeat' (first|omega|(try apply ag);simp only [go_sem,sevalprocAttr,b1]|(refine ⟨aA.fn (r:=?_) rfl ?_ ?_⟩;rotate_left;assumption)|(refine ⟨bC.fn (r:=?_) rfl ?_ ?_⟩;rotate_left;assumption)|apply ah<;>(intro h_;(try simp only [h_]);revert h_)|apply ai|apply aj|apply ae|apply And.intro|with_reducible intro h_|trivial|simp only [go_sem,ak];omega)
 ·rw [if_neg h1];have b1:decide (a<b)=false:=by simpa using h1
  by_cases h2:b<a
  ·rw [if_pos h2];have b2:decide (b<a)=true:=by simpa using h2
   refine Fn.intro [.tmp 4] Tryz.func116 rfl rfl (by decide) (by simp [Tryz.ntmps116]) ?_;rw [Tryz.ntmps116]
   repeat' (first|omega|(try apply ag);simp only [go_sem,sevalprocAttr,b1,b2]|(refine ⟨aA.fn (r:=?_) rfl ?_ ?_⟩;rotate_left;assumption)|(refine ⟨bC.fn (r:=?_) rfl ?_ ?_⟩;rotate_left;assumption)|apply ah<;>(intro h_;(try simp only [h_]);revert h_)|apply ai|apply aj|apply ae|apply And.intro|with_reducible intro h_|trivial|simp only [go_sem,ak];omega)
  ·rw [if_neg h2];have b2:decide (b<a)=false:=by simpa using h2
   refine Fn.intro [.tmp 4] Tryz.func116 rfl rfl (by decide) (by simp [Tryz.ntmps116]) ?_;rw [Tryz.ntmps116]
   repeat' (first|omega|(try apply ag);simp only [go_sem,sevalprocAttr,b1,b2]|(refine ⟨aA.fn (r:=?_) rfl ?_ ?_⟩;rotate_left;assumption)|(refine ⟨bC.fn (r:=?_) rfl ?_ ?_⟩;rotate_left;assumption)|apply ah<;>(intro h_;(try simp only [h_]);revert h_)|apply ai|apply aj|apply ae|apply And.intro|with_reducible intro h_|trivial|simp only [go_sem,ak];omega)
theorem R3 (x c e:Int):Fn Tryz.prog 115 [.agg [I x,I c],I e] (I (nk x e)):=by
 have h:=y2h x e;refine Fn.intro [.tmp 4] Tryz.func115 rfl rfl (by decide) (by simp [Tryz.ntmps115]) ?_;rw [Tryz.ntmps115]
 repeat' (first|omega|(try apply ag);simp only [go_sem,sevalprocAttr,h]|(refine ⟨aA.fn (r:=?_) rfl ?_ ?_⟩;rotate_left;assumption)|(refine ⟨bC.fn (r:=?_) rfl ?_ ?_⟩;rotate_left;assumption)|apply ah<;>(intro h_;(try simp only [h_]);revert h_)|apply ai|apply aj|apply ae|apply And.intro|with_reducible intro h_|trivial|simp only [go_sem,ak];omega)
def jq (p:List (Int×Int)) (e:Int):Nat:=p.countP fun t=>decide (t.1<e)
theorem Ma {p:List (Int×Int)} {e:Int} {i:Nat} (hi:i<=p.length) (h1: ∀k,k<i->(p.getD k (0,0)).1<e) (h2: ∀k,i<=k->k<p.length-> ¬(p.getD k (0,0)).1<e):jq p e=i:=by
 have e1:p=p.take i++p.drop i:=(List.take_append_drop i p).symm;unfold jq;rw [e1,List.countP_append];have a:(p.take i).countP (fun t=>decide (t.1<e))=(p.take i).length:=by
  rw [List.countP_eq_length];intro t ht;obtain ⟨k,hk,rfl⟩:=List.mem_iff_getElem.1 ht;simp only [List.length_take] at hk
  have:=h1 k (by omega)
  rw [List.getElem_take];simp only [List.getD_eq_getElem?_getD,List.getElem?_eq_getElem (show k<p.length by omega),Option.getD_some] at this;simpa using this
 have b:(p.drop i).countP (fun t=>decide (t.1<e))=0:=by
  rw [List.countP_eq_zero];intro t ht;obtain ⟨k,hk,rfl⟩:=List.mem_iff_getElem.1 ht;simp only [List.length_drop] at hk
  have:=h2 (i+k) (by omega) (by omega)
  rw [List.getElem_drop];simp only [List.getD_eq_getElem?_getD,List.getElem?_eq_getElem (show i+k<p.length by omega),Option.getD_some] at this;simpa using this
 rw [a,b,List.length_take];omega
theorem V8 {p:List (Int×Int)} (h:b8 p) {i j:Nat} (eK:i<j) (hj:j<p.length):(p.getD i (0,0)).1<(p.getD j (0,0)).1:=by
 have:=List.pairwise_iff_getElem.1 h.asc i j (by omega) hj eK
 simpa [List.getD_eq_getElem?_getD,List.getElem?_eq_getElem (show i<p.length by omega),List.getElem?_eq_getElem hj] using this
theorem TA {p:List (Int×Int)} (h:b8 p) (e:Int):jq p e<=p.length/\(∀k,k<jq p e->(p.getD k (0,0)).1<e)/\ ∀k,jq p e<=k->k<p.length-> ¬(p.getD k (0,0)).1<e:=by
 have key: ∀n,n<=p.length-> ∃i,i<=n/\(∀k,k<i->(p.getD k (0,0)).1<e)/\ ∀k,i<=k->k<n-> ¬(p.getD k (0,0)).1<e:=fun n=>by
  induction n with
  |zero=>exact fun _=>⟨0,by omega,fun k hk=>by omega,fun k _ hk=>by omega⟩
  |succ n ih=>
   intro hn;obtain ⟨i,h0,h1,h2⟩:=ih (by omega);by_cases hx:(p.getD n (0,0)).1<e
   ·have oL:i=n:=Nat.le_antisymm h0 (Nat.le_of_not_lt fun aG=>h2 i (Nat.le_refl _) aG (by have:=V8 h aG (by omega);omega));subst oL;refine ⟨i+1,by omega,fun k hk=>?_,fun k hk rQ=>by omega⟩;by_cases EY:k<i
    ·exact h1 k EY
    ·rw [show k=i by omega];exact hx
   ·refine ⟨i,by omega,h1,fun k hk rQ=>?_⟩;by_cases wJ:k<n
    ·exact h2 k hk wJ
    ·rw [show k=n by omega];exact hx
 obtain ⟨i,h0,h1,h2⟩:=key p.length (Nat.le_refl _);rw [Ma h0 h1 h2];exact ⟨h0,h1,h2⟩
def vE (p:List (Int×Int)) (e:Int):Bool:=decide (jq p e<p.length)&&((p.getD (jq p e) (0,0)).1==e)
theorem y2i (p:List (Int×Int)) (e:Int) (h:b8 p) (hl:p.length<=1000000):Fn Tryz.prog 114 [tmA p,I e, .fn 115 []] (.tup [I (jq p e), .bool (vE p e)]):=by
 obtain ⟨s0,s1,s2⟩:=TA h e;have hlen:=ybn p;refine Fn.intro [.tmp 6, .tmp 7] Tryz.func114 rfl rfl (by decide) (by simp [Tryz.ntmps114]) ?_;rw [Tryz.ntmps114]
 repeat' (first|omega|(try apply ag);simp only [go_sem,sevalprocAttr]|apply ah<;>(intro h_;(try simp only [h_]);revert h_)|apply ai|apply aj|apply ae|apply And.intro|with_reducible intro h_|trivial|simp only [go_sem,ak];omega)
 refine bV.intro (fun n fr H=> ∃i j:Nat,i<=jq p e/\jq p e<=j/\j<=p.length/\n=j-i/\fr=[(10,I j),(9,I i),(8,I p.length),(2, .fn 115 []),(1,I e),(0,tmA p)]/\H=[]) ?_ ?_
 ·refine ⟨_,_,_,Wk.sub ?_ ?_,0,p.length,by omega,s0,by omega,rfl,rfl,rfl⟩<;>(simp only [go_sem,sevalprocAttr,yap])
 rintro n fr H ⟨i,j,hi,hj,cO,rfl,rfl,rfl⟩;by_cases eK:i<j
 ·have w7:decide ((i:Int)<j)=true:=by simpa using eK
  have e1:IntKind.u64.wrap ((i:Int)+j)=(i:Int)+j:=by rw [IntKind.wrap_u64];omega
  obtain ⟨k,hk⟩: ∃k:Nat,k=(i+j)/2:=⟨_,rfl⟩;have e2:IntKind.i64.wrap (((i:Int)+j)/2^1)=(k:Nat):=by rw [IntWalk.i64_in _ (by omega)];omega
  have e3:IntKind.i64.wrap (((i:Int)+j)/2)=(k:Nat):=e2;have bN:k<p.length:=by omega
  have g0:=l7 p k bN;have g1:=qt p k bN;have hC:=R3 (p.getD k (0,0)).1 (p.getD k (0,0)).2 e;by_cases hx:(p.getD k (0,0)).1<e
  ·have hb:decide (nk (p.getD k (0,0)).1 e<0)=true:=by unfold nk;rw [if_pos hx];rfl
   have Xq:k<jq p e:=Nat.lt_of_not_le fun hle=>s2 k hle bN hx
   repeat' (first|omega|(try apply ag);simp only [go_sem,sevalprocAttr,w7,e1,e2,e3,g0,g1,hlen]|apply ah<;>(intro h_;(try simp only [h_]);revert h_)|apply ai|apply aj|apply ae|apply And.intro|with_reducible intro h_|trivial|simp only [go_sem,ak];omega)
   refine ⟨aA.fn rfl hC ?_⟩
   repeat' (first|omega|(try apply ag);simp only [go_sem,sevalprocAttr,hb]|apply ah<;>(intro h_;(try simp only [h_]);revert h_)|apply ai|apply aj|apply ae|apply And.intro|with_reducible intro h_|trivial|simp only [go_sem,ak];omega)
   refine ⟨_,_,_,?_,Wk.sub ?_ ?_,k+1,j,by omega,by omega,by omega,rfl,rfl,rfl⟩
   ·omega
   ·simp only [go_sem,sevalprocAttr,yap]
   ·simp only [go_sem,sevalprocAttr]
  ·have hb:decide (nk (p.getD k (0,0)).1 e<0)=false:=by unfold nk;rw [if_neg hx];split<;>rfl
   have Xq:jq p e<=k:=Nat.le_of_not_lt fun aG=>hx (s1 k aG)
   repeat' (first|omega|(try apply ag);simp only [go_sem,sevalprocAttr,w7,e1,e2,e3,g0,g1,hlen]|apply ah<;>(intro h_;(try simp only [h_]);revert h_)|apply ai|apply aj|apply ae|apply And.intro|with_reducible intro h_|trivial|simp only [go_sem,ak];omega)
   refine ⟨aA.fn rfl hC ?_⟩
   repeat' (first|omega|(try apply ag);simp only [go_sem,sevalprocAttr,hb]|apply ah<;>(intro h_;(try simp only [h_]);revert h_)|apply ai|apply aj|apply ae|apply And.intro|with_reducible intro h_|trivial|simp only [go_sem,ak];omega)
   refine ⟨_,_,_,?_,Wk.sub ?_ ?_,i,k,by omega,by omega,by omega,rfl,rfl,rfl⟩
   ·omega
   ·simp only [go_sem,sevalprocAttr,yap]
   ·simp only [go_sem,sevalprocAttr]
 ·obtain rfl:i=j:=by omega
  obtain rfl:i=jq p e:=by omega
  have w7:decide (((jq p e:Nat):Int)<(jq p e:Nat))=false:=by simp
  by_cases hn:jq p e<p.length
  ·have bn:decide (((jq p e:Nat):Int)<(p.length:Nat))=true:=by simpa using hn
   have g0:=l7 p _ hn;have g1:=qt p _ hn;have hC:=R3 (p.getD (jq p e) (0,0)).1 (p.getD (jq p e) (0,0)).2 e;have hx:=s2 _ (Nat.le_refl _) hn;have hB:vE p e=(nk (p.getD (jq p e) (0,0)).1 e==0):=by
    unfold vE nk;rw [decide_eq_true hn,if_neg hx,Bool.true_and];by_cases h3:e<(p.getD (jq p e) (0,0)).1
    ·rw [if_pos h3,beq_eq_false_iff_ne.2 (by omega)];rfl
    ·rw [if_neg h3,beq_iff_eq.2 (by omega)];rfl
   rw [hB]
   repeat' (first|omega|(try apply ag);simp only [go_sem,sevalprocAttr,w7,bn,g0,g1,hlen]|apply ah<;>(intro h_;(try simp only [h_]);revert h_)|apply ai|apply aj|apply ae|apply And.intro|with_reducible intro h_|trivial|simp only [go_sem,ak];omega)
   refine ⟨aA.fn rfl hC ?_⟩
   repeat' (first|omega|(try apply ag);simp only [go_sem,sevalprocAttr,bn]|apply ah<;>(intro h_;(try simp only [h_]);revert h_)|apply ai|apply aj|apply ae|apply And.intro|with_reducible intro h_|trivial|simp only [go_sem,ak];omega)
  ·have bn:decide (((jq p e:Nat):Int)<(p.length:Nat))=false:=by simpa using hn
   have hB:vE p e=false:=by unfold vE;rw [decide_eq_false hn];rfl
   rw [hB]
   repeat' (first|omega|(try apply ag);simp only [go_sem,sevalprocAttr,w7,bn]|apply ah<;>(intro h_;(try simp only [h_]);revert h_)|apply ai|apply aj|apply ae|apply And.intro|with_reducible intro h_|trivial|simp only [go_sem,ak];omega)
theorem Nd {p:List (Int×Int)} {e:Int} (h:b8 p) (hb:vE p e=true):jq p e<p.length/\cfL p e=(p.getD (jq p e) (0,0)).2:=by
 unfold vE at hb;simp only [Bool.and_eq_true,decide_eq_true_eq,beq_iff_eq] at hb;refine ⟨hb.1,?_⟩
 have:=za h (jW hb.1)
 rwa [hb.2] at this
theorem Nc {p:List (Int×Int)} {e:Int} (h:b8 p) (hb:vE p e=false):cfL p e=0:=by
 refine rq fun t ht e1=>?_;obtain ⟨s0,s1,s2⟩:=TA h e;obtain ⟨k,hk,rfl⟩:=List.mem_iff_getElem.1 ht;have ek:p[k]=p.getD k (0,0):=by simp [hk]
 rw [ek] at e1;have h1:jq p e<=k:=Nat.le_of_not_lt fun aG=>by have:=s1 k aG;omega
 have h2:k<=jq p e:=Nat.le_of_not_lt fun aG=>s2 _ (Nat.le_refl _) (by omega) (by have:=V8 h aG hk;omega);obtain rfl:k=jq p e:=by omega
 unfold vE at hb;rw [decide_eq_true hk,e1] at hb;simp at hb
theorem JV (p:List (Int×Int)) (e:Int) (h:b8 p) (hl:p.length<=1000000):Fn Tryz.prog 53 [plA false p,I e] (I (cfL p e)):=by
 have hB:=y2i p e h hl;have hlen:=ybn p;cases hb:vE p e with
 |true=>
  rw [hb] at hB;obtain ⟨h1,h2⟩:=Nd h hb;have g0:=l7 p _ h1;have g1:=qt p _ h1;rw [h2];refine Fn.intro [.tmp 4] Tryz.func53 rfl rfl (by decide) (by simp [Tryz.ntmps53]) ?_;rw [Tryz.ntmps53]
  repeat' (first|omega|(try apply ag);simp only [go_sem,sevalprocAttr,g1]|apply ah<;>(intro h_;(try simp only [h_]);revert h_)|apply ai|apply aj|apply ae|apply And.intro|with_reducible intro h_|trivial|simp only [go_sem,ak];omega)
  refine ⟨aA.fn rfl hB ?_⟩
  repeat' (first|omega|(try apply ag);simp only [go_sem,sevalprocAttr,g0,g1,hlen]|apply ah<;>(intro h_;(try simp only [h_]);revert h_)|apply ai|apply aj|apply ae|apply And.intro|with_reducible intro h_|trivial|simp only [go_sem,ak];omega)
 |false=>
  rw [hb] at hB;rw [Nc h hb];refine Fn.intro [.tmp 4] Tryz.func53 rfl rfl (by decide) (by simp [Tryz.ntmps53]) ?_;rw [Tryz.ntmps53]
  repeat' (first|omega|(try apply ag);simp only [go_sem,sevalprocAttr,hlen]|apply ah<;>(intro h_;(try simp only [h_]);revert h_)|apply ai|apply aj|apply ae|apply And.intro|with_reducible intro h_|trivial|simp only [go_sem,ak];omega)
  refine ⟨aA.fn rfl hB ?_⟩
  repeat' (first|omega|(try apply ag);simp only [go_sem,sevalprocAttr,hlen]|apply ah<;>(intro h_;(try simp only [h_]);revert h_)|apply ai|apply aj|apply ae|apply And.intro|with_reducible intro h_|trivial|simp only [go_sem,ak];omega)
theorem L9 {p q:List (Int×Int)} {f g:Int->Int} (hp:bZ p f) (hq:bZ q g) (hs: ∀e,f e≠0-> -1000<=e/\e<=1000) (ht: ∀e,g e≠0-> -1000<=e/\e<=1000)
  (hf: ∀e,-562949953421312<=f e/\f e<=562949953421312) (hg: ∀e,-562949953421312<=g e/\g e<=562949953421312):
  ∃r,bZ r (fun e=>f e+g e)/\Fn Tryz.prog 130 [plA false p,plA false q] (plA false r):=by
 have ha:=Q5 nq p q hp.asc.asc hq.asc.asc;have hc: ∀x,cfL (mrg nq p q) x=f x+g x:=fun x=>by rw [Ka nq rfl p q hp.asc.asc hq.asc.asc,hp.cf,hq.cf];rfl
 refine ⟨nz (mrg nq p q),⟨Vt ha,fun e=>by rw [Vu,hc]⟩,Mc p q (hp.fits fun e=>by have:=hf e;omega) (hq.fits fun e=>by have:=hg e;omega) (by have:=hp.len hs;omega) (by have:=hq.len ht;omega) ?_⟩;unfold pE;rw [List.all_eq_true];intro t ht
 have:=Sr ha ht
 rw [hc] at this;have h1:=hf t.1;have h2:=hg t.1;exact Hl (by omega) (by omega)
end Go.Proofs.YtphjphpmfflfpaaGreatDoor
namespace Go.Proofs.YtphjphpmfflfpaaGreatDoor
def evL:List (Int×Int)->Int
 |[]=>0
 |t::p=>t.2+evL p
def rX (f:Int->Int) (M:Nat):Int:=sm (fun i=>f ((i:Int)-M)) (2*M+1)
theorem JU (M:Nat): ∀(p:List (Int×Int)),(∀t∈p,-(M:Int)<=t.1/\t.1<=M)->rX (cfL p) M=evL p
 |[],_=>by unfold rX;simp only [cfL,evL];rw [k8];omega
 |t::p,h=>by
  have ih:=JU M p fun u hu=>h u (List.mem_cons_of_mem _ hu);have ht:=h t (List.mem_cons_self ..);unfold rX at ih⊢;simp only [cfL,evL];rw [nH,ih,vJ (a:=(t.1+M).toNat) (by omega) fun x hx az=>if_neg (by omega),if_pos (by omega)]
theorem JT (M:Nat): ∀(j:Nat) (a:Int),-(M:Int)+2*j<=a->a+2*j<=M->rX (fun e=>dpw j (e-a)) M=(-2)^j
 |0,a,h1,h2=>by
  unfold rX;simp only [dpw];rw [vJ (a:=(a+M).toNat) (by omega) fun x hx az=>if_neg (by omega),if_pos (by omega)];rfl
 |j+1,a,h1,h2=>by
  have e1:=JT M j (a-2) (by omega) (by omega);have e2:=JT M j (a+2) (by omega) (by omega)
  have:rX (fun e=>dpw (j+1) (e-a)) M=rX (fun e=> -1*dpw j (e-(a-2))+ -1*dpw j (e-(a+2))) M:=by
   unfold rX;refine dO fun x hx=>?_;simp only [dpw,cS];rw [show (x:Int)-M-a+2=(x:Int)-M-(a-2) by omega,show (x:Int)-M-a-2=(x:Int)-M-(a+2) by omega];omega
  rw [this];unfold rX at e1 e2⊢;rw [nH,sz,sz,e1,e2,Int.pow_succ];omega
theorem V7 {K:Nat} {c:Nat->Nat} {w:Nat->Int} (j M:Nat) (h: ∀k,k<K->j<=c k-> -(M:Int)+2*((c k:Int)-j)<=w k/\w k+2*((c k:Int)-j)<=M):rX (pc K c w j) M=sm (fun k=>if j<=c k then (-2)^(c k-j) else 0) K:=by
 unfold rX pc;rw [GI];refine dO fun k hk=>?_;by_cases hj:j<=c k
 ·have:=h k hk hj
  simp only [if_pos hj];exact JT M (c k-j) (w k) (by omega) (by omega)
 ·simp only [if_neg hj];rw [k8];omega
def gh (n i k:Nat) (c:Nat):Nat:=if c<i then df (cA k c) else if c<n then 2 else 0
section
variable {m:List Int} {n:Nat} (hp:aE m n)
include hp
theorem yL (hn:0<n) (L:Nat): ∀i,i<=n->sm (fun k=>(-2:Int)^(dy m n (gh n i k)+L-1)) (2^i)=(-1)^i*(-2:Int)^(dy m n (gh n 0 0)+L-1)
 |0,_=>by simp [sm]
 |i+1,hi=>by
  have ih:=yL hn L i (by omega);rw [Nat.pow_succ,Nat.mul_two,Dn,←nH];have key:sm (fun k=>(-2:Int)^(dy m n (gh n (i+1) k)+L-1)+(-2:Int)^(dy m n (gh n (i+1) (2^i+k))+L-1)) (2^i)=sm (fun k=> -1*(-2:Int)^(dy m n (gh n i k)+L-1)) (2^i):=by
   refine dO fun k hk=>?_;obtain ⟨K,t0,vm,h3⟩:=TJ hp (gh n i k) (c:=i) (by omega);have e0:gh n (i+1) k=fun x=>if x=i then 0 else gh n i k x:=by
    funext x;unfold gh;by_cases e:x=i
    ·subst e;rw [if_pos (by omega),if_pos rfl,Jo hk];rfl
    ·rw [if_neg e];by_cases h:x<i
     ·rw [if_pos (by omega),if_pos h]
     ·rw [if_neg (by omega),if_neg h]
   have e1:gh n (i+1) (2^i+k)=fun x=>if x=i then 1 else gh n i k x:=by
    funext x;unfold gh;by_cases e:x=i
    ·subst e;rw [if_pos (by omega),if_pos rfl,Kq hk];rfl
    ·rw [if_neg e];by_cases h:x<i
     ·rw [if_pos (by omega),if_pos h,Rt h]
     ·rw [if_neg (by omega),if_neg h]
   have e2:gh n i k=fun x=>if x=i then 2 else gh n i k x:=by
    funext x;by_cases e:x=i
    ·subst e;rw [if_pos rfl];unfold gh;rw [if_neg (by omega),if_pos (by omega)]
    ·rw [if_neg e]
   have h0:=h3 0 (by omega);have h1:=h3 1 (by omega);have h2:=h3 2 (by omega);rw [←e0] at h0;rw [←e1] at h1;rw [←e2] at h2;have p0:=Kb n (xh hp (gh n (i+1) k)) hn;have p1:=Kb n (xh hp (gh n (i+1) (2^i+k))) hn;have hK:1<=K:=by
    change 1<=dy m n _ at p0;change 1<=dy m n _ at p1;rw [h0] at p0;rw [h1] at p1
    split at p0<;>split at p1<;>omega
   obtain ⟨q,hq⟩: ∃q,K+L-1=q:=⟨_,rfl⟩;have Cn:K+1+L-1=q+1:=by omega
   rw [h0,h1,h2];rcases (show t0=0\/t0=1\/t0=2 by omega) with rfl|rfl|rfl<;>
   simp only [if_true,if_false,Nat.reduceEqDiff,reduceIte,reduceCtorEq]<;>
   simp [hq,Cn,Int.pow_succ]<;>omega
  rw [key,sz,ih,Int.pow_succ];rw [Int.mul_comm ((-1)^i) (-1),Int.mul_assoc]
theorem Zw (k:Nat):dy m n (gh n n k)=aX m n (cA k):=by
 have:gh n n k=fun c=>df (if c<n then cA k c else false):=by
  funext c;unfold gh;by_cases h:c<n
  ·rw [if_pos h,if_pos h]
  ·rw [if_neg h,if_neg h,if_neg h];rfl
 rw [this,←Bu hp];unfold aX;rw [xB fun c hc=>if_pos hc]
theorem Vo (hn:0<n) (L:Nat):sm (fun k=>(-2:Int)^(cN m n L k-1)) (2^n)=(-1)^n*(-2:Int)^(dy m n (gh n 0 0)+L-1):=by
 have:=yL hp hn L n (Nat.le_refl _)
 rw [←this];exact dO fun k _=>by rw [Zw hp];rfl
end
section
variable {s m:List Int} {L:Int} (hv:Bn s m L)
include hv
theorem G4 {x:Nat} (hx:x<4*s.length):aw s (m.getD x 0)= !aw s x/\aw s (bE m x)=aw s x:=by
 have hm:=hv.mt x hx;have h5:=hm.2.2.2.2;have e1:aw s (m.getD x 0)= !aw s x:=by cases h1:aw s x<;>cases h2:aw s (m.getD x 0)<;>simp_all
 refine ⟨e1,?_⟩;have key: ∀y:Int,0<=y->y<4*s.length->aw s (dB y 2)= !aw s y:=fun y h0 h1=>by
  have hs:=hv.sg (y/4).toNat (by omega);have e:dB y 2=y-y % 4+(y % 4+2)% 4:=by unfold dB;rw [show (2:Int).tmod 4=2 by decide];omega
  have e4:(y-y % 4+(y % 4+2)% 4)/4=y/4:=by omega
  rw [e];unfold aw;rw [e4];rcases (show y % 4=0\/y % 4=1\/y % 4=2\/y % 4=3 by omega) with h|h|h|h
  ·rw [if_neg (by omega),if_pos (by omega),if_neg (by omega),if_neg (by omega),if_neg (by omega)];rfl
  ·rw [if_neg (by omega),if_neg (by omega),if_pos (by omega),if_pos h];rcases hs with hs|hs<;>rw [hs]<;>rfl
  ·rw [if_neg (by omega),if_neg (by omega),if_neg (by omega),if_neg (by omega),if_pos h];rfl
  ·rw [if_pos (by omega),if_neg (by omega),if_neg (by omega),if_pos h];rcases hs with hs|hs<;>rw [hs]<;>rfl
 unfold bE;rw [Int.toNat_natCast,key _ hm.1 (by omega),e1,Bool.not_not]
theorem zk {x:Nat} (hx:x<4*s.length): ∀j,aw s (it (bE m) j x)=aw s x
 |0=>rfl
 |j+1=>by
  have hR:au s.length (x:Int):=by unfold au;omega
  have hS:=(xx hv.prd).it hR j;unfold au at hS;have e:it (bE m) j (x:Int)=((it (bE m) j (x:Int)).toNat:Int):=by omega
  have h1:=(G4 hv (x:=(it (bE m) j (x:Int)).toNat) (by omega)).2;rw [←e] at h1;show aw s (bE m (it (bE m) j x))=_;rw [h1,zk hx j]
theorem TZ (hp:aE m s.length):(a8 s m).length=dy m s.length (gh s.length 0 0):=by
 have hl:=hv.len;have hR: ∀x:Nat,x<m.length->au s.length (x:Int):=fun x hx=>by unfold au;omega
 have kv:=fun (x:Nat) (hx:x<m.length)=>by
  have:=zt (xx hv.prd) (hR x hx)
  rw [←hl] at this;exact this
 have rS:=(Kk (N:=m.length) (want:=aw s) (orb:=aY (bE m) m.length) (fun x hx _ y hy=>by
  have:=(kv x hx).2.1 y hy
  unfold au at this;omega) (fun x hx _=>(kv x hx).2.2.2.2.1) (fun x y hx hy hw hm=>by
  refine ⟨?_,(kv x hx).2.2.1 y hm⟩;obtain ⟨j,hj⟩:=((kv x hx).1 y).1 hm;rw [←hj,zk hv (by omega) j];exact hw) (fun x y z hx hy hz _ h1 h2=>(kv x hx).2.2.2.1 y h1 z h2) m.length (Nat.le_refl _)).1
 have hlen:(a8 s m).length=((List.range m.length).filter fun i:Nat=>aw s i&&vK i (aY (bE m) m.length i)).length:=by
  unfold a8;rw [rS,List.length_map]
 have yz:=xh hp (gh s.length 0 0);have hi:=vP hp.ok hp.inv hp.ne (gh s.length 0 0);have pT:dy m s.length (gh s.length 0 0)=((List.range m.length).filter fun x=>(crN (fun x=>m.getD x.toNat 0) (dD (gh s.length 0 0)) (4*s.length) (4*s.length)).getD x 0==(x:Int)).length:=by
  unfold dy roots;rw [List.countP_eq_length_filter,yz.rep.len,hl]
 rw [hlen,pT];generalize hRR:crN (fun x=>m.getD x.toNat 0) (dD (gh s.length 0 0)) (4*s.length) (4*s.length)=R at*;have jn2: ∀x:Int,au s.length x->dD (gh s.length 0 0) x=dB x 2:=fun x hx=>by
  unfold au at hx;have e:dB x 2=x-x % 4+(x % 4+2)% 4:=by unfold dB;rw [show (2:Int).tmod 4=2 by decide];omega
  unfold dD gh;rw [if_neg (by omega),if_pos (by omega),e];rfl
 have O5: ∀x:Int,au s.length x-> ∀j,it (fun x=>dD (gh s.length 0 0) (m.getD x.toNat 0)) j x=it (bE m) j x:=fun x hx j=>by
  induction j with
  |zero=>rfl
  |succ j ih=>
   show dD _ (m.getD (it (fun x=>dD (gh s.length 0 0) (m.getD x.toNat 0)) j x).toNat 0)=bE m (it (bE m) j x);rw [ih];exact jn2 _ (hi.mr _ ((xx hv.prd).it hx j))
 have QT: ∀x y:Nat,x<m.length->y<m.length->aw s x=true->aw s y=true->(R.getD x 0=R.getD y 0↔(y:Int)∈aY (bE m) m.length x):=fun x y hx hy ox oy=>by
  rw [yz.iff x y (by omega) (by omega),(kv x hx).1];obtain ⟨k,hk,lJ⟩:=(uW hi).Cc (hR x hx);rw [←C4 hi (hR x hx) lJ];constructor
  ·rintro ⟨j,hj,e|e⟩
   ·exact ⟨j,by rw [←O5 _ (hR x hx)];exact e.symm⟩
   ·exfalso;rw [O5 _ (hR x hx)] at e;have hS:=(xx hv.prd).it (hR x hx) j;unfold au at hS;have h1:=(G4 hv (x:=(it (bE m) j (x:Int)).toNat) (by omega)).1;rw [show (((it (bE m) j (x:Int)).toNat:Nat):Int)=it (bE m) j x by omega,zk hv (by omega) j,ox] at h1;change (y:Int)=m.getD (it (bE m) j (x:Int)).toNat 0 at e;rw [←e,oy] at h1;cases h1
  ·rintro ⟨j,e⟩;refine ⟨j % k,Nat.mod_lt _ lJ.pos, .inl ?_⟩;rw [←e,←O5 _ (hR x hx),←Jy lJ]
 have rg:=yz.rep.cn;refine Nat.le_antisymm (Jn (List.Nodup.sublist List.filter_sublist List.nodup_range) (fun x r=>R.getD x 0=(r:Int)) (fun x hx=>?_) (fun x x' r hx gw h1 h2=>?_)) (Jn (List.Nodup.sublist List.filter_sublist List.nodup_range) (fun r x=>R.getD x 0=(r:Int)) (fun r hr=>?_) (fun r r' x _ _ h1 h2=>by omega))
 ·simp only [List.mem_filter,List.mem_range,Bool.and_eq_true] at hx
  have:=rg x (by omega)
  refine ⟨(R.getD x 0).toNat,?_,by omega⟩;simp only [List.mem_filter,List.mem_range,beq_iff_eq];refine ⟨by omega,?_⟩;rw [yz.rep.idem x (by omega)];omega
 ·simp only [List.mem_filter,List.mem_range,Bool.and_eq_true] at hx gw;have e:=h1.trans h2.symm;have a:=(QT x x' hx.1 gw.1 hx.2.1 gw.2.1).1 e;have b:=(QT x' x gw.1 hx.1 gw.2.1 hx.2.1).1 e.symm;have c1:=sC.1 hx.2.2 _ a;have c2:=sC.1 gw.2.2 _ b;omega
 ·simp only [List.mem_filter,List.mem_range,beq_iff_eq] at hr;obtain ⟨o,ho,oo,oR⟩: ∃o:Nat,o<m.length/\aw s o=true/\R.getD o 0=(r:Int):=by
   cases h:aw s r with
   |true=>exact ⟨r,hr.1,h,hr.2⟩
   |false=>
    have h1:=(G4 hv (x:=r) (by omega)).1;have hm:=hv.mt r (by omega);refine ⟨(m.getD r 0).toNat,by omega,by rw [show (((m.getD r 0).toNat:Nat):Int)=m.getD r 0 by omega,h1,h];rfl,?_⟩;rw [←hr.2];refine ((yz.iff r (m.getD r 0).toNat (by omega) (by omega)).2 ?_).symm;rw [show (((m.getD r 0).toNat:Nat):Int)=m.getD r 0 by omega]
    have:=aL.aH (mt:=fun x=>m.getD x.toNat 0) (jn:=dD (gh s.length 0 0)) (aL.refl (r:Int))
    simpa using this
  have AW: ∀b:Nat,(∃y:Nat,y<=b/\(y:Int)∈aY (bE m) m.length o)-> ∃y:Nat,(y:Int)∈aY (bE m) m.length o/\ ∀z:Nat,(z:Int)∈aY (bE m) m.length o->y<=z:=by
   intro b
   induction b with
   |zero=>rintro ⟨y,hy,h⟩;exact ⟨y,h,fun z _=>by omega⟩
   |succ b ih=>
    rintro ⟨y,hy,h⟩;by_cases hq: ∃y:Nat,y<=b/\(y:Int)∈aY (bE m) m.length o
    ·exact ih hq
    ·exact ⟨y,h,fun z hz=>by
      rcases Nat.lt_or_ge z y with g|g
      ·exact absurd ⟨z,by omega,hz⟩ hq
      ·exact g⟩
  obtain ⟨y,hy,tN⟩:=AW o ⟨o,Nat.le_refl _,(kv o ho).2.2.2.2.1⟩;have hyS:=(kv o ho).2.1 _ hy;unfold au at hyS;have WN:aw s y=true:=by
   obtain ⟨j,hj⟩:=((kv o ho).1 y).1 hy;rw [←hj,zk hv (by omega) j];exact oo
  refine ⟨y,?_,?_⟩
  ·simp only [List.mem_filter,List.mem_range,Bool.and_eq_true];refine ⟨by omega,WN,sC.2 fun z hz=>?_⟩;have h1:=(kv o ho).2.2.2.1 _ hy z hz;have h2:=(kv o ho).2.1 z h1;unfold au at h2
   have:=tN z.toNat (by rw [show ((z.toNat:Nat):Int)=z by omega];exact h1)
   omega
  ·rw [←oR];exact ((QT o y ho (by omega) oo WN).2 hy).symm
end
end Go.Proofs.YtphjphpmfflfpaaGreatDoor
