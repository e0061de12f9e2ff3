/- Layer 12: Neg and Shift. -/
import Derived.Test.YtphjphpmfflfpaaGreatDoorZq
import Derived.Test.YtphjphpmfflfpaaGreatDoorZd
import Derived.Test.YtphjphpmfflfpaaGreatDoorZp
import Derived.Test.YtphjphpmfflfpaaGreatDoorGb
set_option linter.unusedSimpArgs false
set_option linter.unusedVariables false
namespace Go.Proofs.YtphjphpmfflfpaaGreatDoor
open Go Go.RowKit
set_option maxRecDepth 100000
set_option maxHeartbeats 8000000
def sS:List (List Nat):=[[],[],[],[],[],[52,53,54,55,56],[52,53,54,55,56],[52,53,54,55,56],[52,53,54,55,56],[52,53,54,55,56],[47,48,49,50,51],[47,48,49,50,51],[47,48,49,50,51],[47,48,49,50,51],[47,48,49,50,51],[],[]]
def sQ:List (List Nat):=[[],[],[],[],[],[],[],[],[],[],[5,6,7,8,9],[5,6,7,8,9],[5,6,7,8,9],[5,6,7,8,9],[5,6,7,8,9],[],[]]
theorem UJ (a b:Int) (h3: -1125899906842624<=b) (h4:b<=1125899906842624):Fn Tryz.prog 97 [I a,I b] (I (lB a b)):=by
 unfold lB;refine Fn.intro [.tmp 4] Tryz.func97 rfl rfl (by decide) (by simp [Tryz.ntmps97]) ?_;rw [Tryz.ntmps97]
 repeat' (first|omega|(try apply aj);simp only [go_sem,sevalprocAttr]|apply ag<;>(intro h_;(try simp only [h_]);revert h_)|apply ah|apply ai|apply ae|apply And.intro|with_reducible intro h_|trivial|simp only [go_sem,ak];omega)
theorem I8 (q:List (Int×Int)) (hq:qi q) (xf:q.length<=500000) (ct:mD (mrg lB [] q)=true):Fn Tryz.prog 39 [plA false q] (plA false (nz (mrg lB [] q))):=by
 have hc:=Iq [] q 97 lB (fun _ h=>by cases h) hq (by simp) xf (fun a b h1 h2 h3 h4=>UJ a b h3 h4);rw [if_pos ct] at hc;have uH:=hc.arg (args':=[.agg [.bool false, .nils],plA false q, .fn 97 []]) (.cons (aM.j7 (.cons (aM.refl _) (.cons (aM.nils (by omega) rfl) .nil))) (.cons (aM.refl _) (.cons (aM.refl _) .nil)))
 refine Fn.intro [.cell 2 29] Tryz.func39 rfl rfl (by decide) (by simp [Tryz.ntmps39]) ?_;rw [Tryz.ntmps39]
 repeat' (first|omega|(try apply aj);simp only [go_sem,sevalprocAttr]|apply ag<;>(intro h_;(try simp only [h_]);revert h_)|apply ah|apply ai|apply ae|apply And.intro|with_reducible intro h_|trivial|simp only [go_sem,ak];omega)
 refine ⟨az.fn rfl uH ?_⟩
 repeat' (first|omega|(try apply aj);simp only [go_sem,sevalprocAttr]|apply ag<;>(intro h_;(try simp only [h_]);revert h_)|apply ah|apply ai|apply ae|apply And.intro|with_reducible intro h_|trivial|simp only [go_sem,ak];omega)
theorem WD (e ig:Int) (h1: -1125899906842624<=e) (h2:e<=1125899906842624) (h3: -1125899906842624<=ig) (h4:ig<=1125899906842624):Fn Tryz.prog 95 [I e, .rp (.lst [I ig]) 0] (I (e+ig)):=by
 refine Fn.intro [.tmp 3] Tryz.func95 rfl rfl (by decide) (by simp [Tryz.ntmps95]) ?_;rw [Tryz.ntmps95]
 repeat' (first|omega|(try apply aj);simp only [go_sem,sevalprocAttr]|apply ag<;>(intro h_;(try simp only [h_]);revert h_)|apply ah|apply ai|apply ae|apply And.intro|with_reducible intro h_|trivial|simp only [go_sem,ak];omega)
theorem WC (p:List (Int×Int)) (k:Int) (nN: -1048576<=k) (nh:k<=1048576) (hp: ∀t∈p,-1048576<=t.1/\t.1<=1048576) (hf: ∀t∈p,gP (t.1+k) 1048576=true) (xJ:1<p.length->(p.getD 0 (0,0)).1<=(p.getD 1 (0,0)).1) (hl:p.length<=500000):
  Fn Tryz.prog 68 [plA false p, .fn 95 [.rp (.lst [I k]) 0]] (plA false (kb k p)):=by
 refine Fn.au [.cell 4 29] Tryz.func68 rfl rfl (by decide) (by simp [Tryz.ntmps68]) ?_;rw [Tryz.ntmps68]
 repeat' (first|omega|(try apply aj);simp only [go_sem,sevalprocAttr]|apply ag<;>(intro h_;(try simp only [h_]);revert h_)|apply ah|apply ai|apply ae|apply And.intro|with_reducible intro h_|trivial|simp only [go_sem,ak];omega)
 refine bN.intro (fun n fr H=> ∃i:Nat,i<=p.length/\n=p.length-i/\fr=[(20,I i),(19,I p.length),(18,tmA p),(5, .ptr 3 0),(4, .ptr 1 0),(2, .ptr 0 0),(1, .fn 95 [.rp (.lst [I k]) 0])]/\H=[(3, .cells 29 (.lst [.bool false, .sl 2 2 0 i])),(2, .cells 75 (.lst (dA (kb k (p.take i))))),(1, .cells 29 (.lst [.bool false, .nils])),(0, .cells 29 (.lst [.bool false,tmA p]))]) ?_ ?_
 ·refine ⟨_,_,_,?_,0,by omega,rfl,rfl,rfl⟩;refine Wk.sub ?_ ?_<;>simp only [go_sem,sevalprocAttr]
  all_goals simp [kb,dA]
 rintro n fr H ⟨i,hi,rfl,rfl,rfl⟩;by_cases fS:i<p.length
 ·have t0:=oF p i fS;have t1:=s6 p i fS;have hm:p.getD i (0,0)∈p:=by simp [fS]
  have bi:decide ((i:Int)<p.length)=true:=by simp;omega
  have aD:=hp _ hm;have hs:=WD (p.getD i (0,0)).1 k (by omega) (by omega) (by omega) (by omega);have hw:=tR ((p.getD i (0,0)).1+k) 1048576 (by omega) (by omega);rw [hf _ hm] at hw
  repeat' (first|omega|(first|apply aj|(refine an.intro (id:=12) sS sQ (by decide+kernel) mixed ?_)|skip);simp only [go_sem,sevalprocAttr,t0,t1,bi,↓reduceIte,reduceCtorEq,sS,sQ]|apply ag<;>(intro h_;(try simp only [h_]);revert h_)|apply ah|apply ai|apply ae|apply And.intro|with_reducible intro h_|trivial|simp only [go_sem,ak];omega)
  refine ⟨az.fn rfl hs ?_⟩
  repeat' (first|omega|(first|apply aj|(refine an.intro (id:=12) sS sQ (by decide+kernel) mixed ?_)|skip);simp only [go_sem,sevalprocAttr,t0,t1,bi,↓reduceIte,reduceCtorEq,sS,sQ]|apply ag<;>(intro h_;(try simp only [h_]);revert h_)|apply ah|apply ai|apply ae|apply And.intro|with_reducible intro h_|trivial|simp only [go_sem,ak];omega)
  refine ⟨az.fn rfl hw ?_⟩
  repeat' (first|omega|(first|apply aj|(refine an.intro (id:=12) sS sQ (by decide+kernel) mixed ?_)|skip);simp only [go_sem,sevalprocAttr,t0,t1,bi,↓reduceIte,reduceCtorEq,sS,sQ]|apply ag<;>(intro h_;(try simp only [h_]);revert h_)|apply ah|apply ai|apply ae|apply And.intro|with_reducible intro h_|trivial|simp only [go_sem,ak];omega)
  ·simp [kb];omega
  refine ⟨_,_,_,?_,?_,⟨i+1,by omega,rfl,rfl,rfl⟩⟩
  ·omega
  ·have e:kb k (p.take (i+1))=kb k (p.take i)++[((p.getD i (0,0)).1+k,(p.getD i (0,0)).2)]:=by
    unfold kb;rw [List.take_add_one,List.map_append,List.getElem?_eq_getElem fS];simp [fS]
   rw [yG,←e];refine Wk.sub ?_ ?_<;>simp only [go_sem,sevalprocAttr]
 ·obtain rfl:i=p.length:=by omega
  rw [List.take_length];have bi:decide ((p.length:Int)<p.length)=false:=by simp
  have hle:(kb k p).length=p.length:=by simp [kb]
  by_cases h2:1<p.length
  ·have t0:=oF (kb k p) 0 (by omega);have t1:=oF (kb k p) 1 (by omega);have b2:decide ((1:Int)<p.length)=true:=by simp;omega
   have b3:decide (((kb k p).getD 1 (0,0)).1<((kb k p).getD 0 (0,0)).1)=false:=by
    have:=xJ h2
    unfold kb
    match p,h2 with
    |x::y::r,_=>simp at this⊢;omega
   repeat' (first|omega|(first|apply aj|(refine an.intro (id:=12) sS sQ (by decide+kernel) mixed ?_)|skip);simp only [go_sem,sevalprocAttr,t0,t1,bi,b2,b3,↓reduceIte,reduceCtorEq,sS,sQ]|apply ag<;>(intro h_;(try simp only [h_]);revert h_)|apply ah|apply ai|apply ae|apply And.intro|with_reducible intro h_|trivial|simp only [go_sem,ak];omega)
   all_goals (rw [List.take_of_length_le (by rw [ybu,hle];omega),hle];exact aM.refl _)
  ·have b2:decide ((1:Int)<p.length)=false:=by simp;omega
   repeat' (first|omega|(first|apply aj|(refine an.intro (id:=12) sS sQ (by decide+kernel) mixed ?_)|skip);simp only [go_sem,sevalprocAttr,bi,b2,↓reduceIte,reduceCtorEq,sS,sQ]|apply ag<;>(intro h_;(try simp only [h_]);revert h_)|apply ah|apply ai|apply ae|apply And.intro|with_reducible intro h_|trivial|simp only [go_sem,ak];omega)
   all_goals (rw [List.take_of_length_le (by rw [ybu,hle];omega),hle];exact aM.refl _)
theorem Vq (p:List (Int×Int)) (k:Int) (nN: -1048576<=k) (nh:k<=1048576) (hp: ∀t∈p,-1048576<=t.1/\t.1<=1048576) (hf: ∀t∈p,gP (t.1+k) 1048576=true) (xJ:1<p.length->(p.getD 0 (0,0)).1<=(p.getD 1 (0,0)).1) (hl:p.length<=500000):
  Fn Tryz.prog 38 [plA false p,I k] (plA false (kb k p)):=by
 have hm:=WC p k nN nh hp hf xJ hl;have hw:=tR k 2097152 (by omega) (by omega);rw [show gP k 2097152=true by unfold gP;simp;omega] at hw;refine Fn.intro [.cell 4 29] Tryz.func38 rfl rfl (by decide) (by simp [Tryz.ntmps38]) ?_;rw [Tryz.ntmps38]
 repeat' (first|omega|(try apply aj);simp only [go_sem,sevalprocAttr]|apply ag<;>(intro h_;(try simp only [h_]);revert h_)|apply ah|apply ai|apply ae|apply And.intro|with_reducible intro h_|trivial|simp only [go_sem,ak];omega)
 refine ⟨az.fn rfl hw ?_⟩
 repeat' (first|omega|(try apply aj);simp only [go_sem,sevalprocAttr]|apply ag<;>(intro h_;(try simp only [h_]);revert h_)|apply ah|apply ai|apply ae|apply And.intro|with_reducible intro h_|trivial|simp only [go_sem,ak];omega)
 refine ⟨az.kB [1] rfl (by simp only [go_sem,sevalprocAttr]) (by simp only [go_sem,sevalprocAttr]) (by simp only [go_sem,sevalprocAttr]) (by simp only [go_sem,sevalprocAttr]) rfl rfl rfl (az.fn rfl hm ?_)⟩
 repeat' (first|omega|(try apply aj);simp only [go_sem,sevalprocAttr]|apply ag<;>(intro h_;(try simp only [h_]);revert h_)|apply ah|apply ai|apply ae|apply And.intro|with_reducible intro h_|trivial|simp only [go_sem,ak];omega)
def uX:List (List Nat):=[[13,14,4],[12,4],[12,4],[4],[4],[17,4],[16,4],[12,13,14,15,11,16,17],[17],[]]
def fu (m:List Int) (n L:Nat) (w e:Int):Int:=(if w % 2=0 then 1 else-1)*bA m n L 1 (e+3*w)
def nG (m:List Int) (n L:Nat) (w:Int):List (Int×Int):=dJ (fu m n L w)
theorem zQ {s:List Int} (hs:qX s s.length): ∀c,c<=s.length-> -(c:Int)<=b8 s c/\b8 s c<=c:=fun c=>by
 induction c with
 |zero=>intro _;simp [b8]
 |succ c ih=>
  intro hc
  have:=ih (by omega)
  have:=hs c (by omega)
  simp only [b8];omega
theorem QH {m:List Int} {n L:Nat} (hp:bd m n) (hn:n<=9) (hL:L<=20) {e:Int} (he:bA m n L 1 e≠0): -100<=e/\e<=100:=by
 have h1:=wI hp he;have h2:=s5 hp (fun _=>true);have h3:=s5 hp (fun _=>false);omega
theorem pz {m:List Int} {n L:Nat} {w:Int} (hp:bd m n) (hn:n<=9) (hL:L<=20) (hw: -9<=w/\w<=9) {e:Int} (he:fu m n L w e≠0): -200<=e/\e<=200:=by
 have:=QH hp hn hL (e:=e+3*w) (fun h=>he (by unfold fu;rw [h];omega))
 omega
theorem Ar {m:List Int} {n L:Nat} {w:Int} (hp:bd m n) (hn:n<=9) (hL:L<=20) (e:Int): -70368744177664<=fu m n L w e/\fu m n L w e<=70368744177664:=by
 have:=El hp hn hL (j:=1) (by omega) (e+3*w)
 unfold fu;split<;>omega
theorem Dv {m:List Int} {n L:Nat} {w:Int} (hp:bd m n) (hn:n<=9) (hL:L<=20) (hw: -9<=w/\w<=9):bH (nG m n L w) (fu m n L w):=sX fun e he=>by have:=pz hp hn hL hw he;omega
theorem QG (k:Int): ∀(p:List (Int×Int)) (e:Int),cfL (kb k p) e=cfL p (e-k)
 |[],_=>rfl
 |t::p,e=>by
  have ih:=QG k p e;rw [show kb k (t::p)=(t.1+k,t.2)::kb k p from rfl];simp only [cfL];by_cases h:t.1=e-k
  ·rw [if_pos (by omega),if_pos h,ih]
  ·rw [if_neg (by omega),if_neg h,ih]
theorem Hi {p:List (Int×Int)} {f:Int->Int} (k:Int) (hk: -1000<=k/\k<=1000) (h:bH p f) (hs: ∀e,f e≠0-> -1000<=e/\e<=1000):
  bH (kb k p) (fun e=>f (e-k))/\Fn Tryz.prog 38 [plA false p,I k] (plA false (kb k p)):=by
 have hr: ∀t∈p,-1000<=t.1/\t.1<=1000:=fun t ht=>hs _ (h.mem ht).2;refine ⟨⟨⟨?_,fun t ht=>?_⟩,fun e=>by rw [QG,h.cf]⟩,Vq p k (by omega) (by omega) (fun t ht=>by have:=hr t ht;omega) (fun t ht=>by have:=hr t ht;unfold gP;simp;omega) (fun h2=>?_) (by have:=h.len hs;omega)⟩
 ·unfold kb;rw [List.pairwise_map];exact h.asc.asc.imp fun fh=>by show _<_;omega
 ·obtain ⟨u,hu,rfl⟩:=List.mem_map.1 ht;exact h.asc.nz u hu
 ·have:=List.pairwise_iff_getElem.1 h.asc.asc 0 1 (by omega) h2 (by omega)
  simp only [List.getD_eq_getElem?_getD,List.getElem?_eq_getElem h2,List.getElem?_eq_getElem (show 0<p.length by omega),Option.getD_some];omega
theorem I7 {p:List (Int×Int)} {f:Int->Int} (h:bH p f) (hs: ∀e,f e≠0-> -1000<=e/\e<=1000) (hb: ∀e,-1125899906842624<=f e/\f e<=1125899906842624):
  ∃q,bH q (fun e=> -f e)/\Fn Tryz.prog 39 [plA false p] (plA false q):=by
 have ha:=GP lB [] p .nil h.asc.asc;refine ⟨_,⟨Gk ha,fun e=>?_⟩,I8 p (h.fits hb) (by have:=h.len hs;omega) ?_⟩
 ·rw [Gl,D4 lB rfl [] p .nil h.asc.asc,h.cf];rfl
 ·unfold mD;refine List.all_eq_true.2 fun t ht=>?_;have h1:=Hn ha ht;rw [D4 lB rfl [] p .nil h.asc.asc,h.cf] at h1;have h2:=hb t.1;rw [←h1];unfold gP lB;simp;omega
theorem Aw (s m:List Int) (L:Nat) (hs:s.length<=9) (hL:L<=20) (hv:dm s m L=true) (aw: ¬(s.length=0/\L=0)):Fn Tryz.prog 23 [dgA s m L] (.tup [plA false (nG m s.length L (b8 s s.length)),I 0]):=by
 have hV:=tP s m L;rw [hv] at hV;have v1:=jC hv;have hp:=fA hv;have hO:=Vs s m L (by omega);rw [if_pos hv] at hO;have cG:=Ek m s.length s.length;have XX:=WG (GH m s.length s.length (Nat.le_refl _)) cG;have hB:=TI s m L _ hs hL hv XX aw;have hW:=Xp s m L hv;have wV:=zQ v1.sg s.length (Nat.le_refl _)
 have YQ:bH (ld m s.length L) (bA m s.length L 1):=sX fun e he=>tH hp hs hL (by omega) he;generalize b8 s s.length=w at*;obtain ⟨h1,hS⟩:=Hi (-3*w) (by omega) YQ fun e he=>tH hp hs hL (by omega) he;have Y3: ∀e,bA m s.length L 1 (e- -3*w)≠0-> -1000<=e/\e<=1000:=fun e he=>by have:=QH hp hs hL he;omega
 obtain ⟨q,h2,hN⟩:=I7 h1 Y3 fun e=>by have:=El hp hs hL (j:=1) (by omega) (e- -3*w);omega
 have pO: ∀e,fu m s.length L w e≠0-> -1000<=e/\e<=1000:=fun e he=>by have:=pz hp hs hL (by omega) he;omega
 generalize ld m s.length L=p at*;generalize iJ m s.length s.length=o at*;by_cases mi:w % 2=0
 ·have e1:kb (-3*w) p=nG m s.length L w:=(h1.congr fun e=>by unfold fu;rw [if_pos mi,Int.one_mul,show e- -3*w=e+3*w by omega]).eq pO;rw [e1] at hS;have b1:(w.tmod 2 !=0)=false:=by rw [bne_eq_false_iff_eq];exact Int.tmod_eq_zero_of_dvd (by omega)
  refine Fn.au [.cell 2 29, .tmp 3] Tryz.func23 rfl rfl (by decide) (by simp [Tryz.ntmps23]) ?_;rw [Tryz.ntmps23]
  repeat' (first|omega|(first|apply aj|(refine an.intro (id:=3) uX [[],[0],[0],[],[],[],[5],[0,1,2,3,4,5,6],[6],[]] (by decide+kernel) mixed ?_)|skip);simp only [go_sem,sevalprocAttr,↓reduceIte,reduceCtorEq,uX]|apply ag<;>(intro h_;(try simp only [h_]);revert h_)|apply ah|apply ai|apply ae|apply And.intro|with_reducible intro h_|trivial|simp only [go_sem,ak];omega)
  refine ⟨az.fn rfl hV ?_⟩
  repeat' (first|omega|(first|apply aj|(refine an.intro (id:=3) uX [[],[0],[0],[],[],[],[5],[0,1,2,3,4,5,6],[6],[]] (by decide+kernel) mixed ?_)|skip);simp only [go_sem,sevalprocAttr,↓reduceIte,reduceCtorEq,uX]|apply ag<;>(intro h_;(try simp only [h_]);revert h_)|apply ah|apply ai|apply ae|apply And.intro|with_reducible intro h_|trivial|simp only [go_sem,ak];omega)
  refine ⟨cg.fn rfl hO ?_⟩;simp only [go_sem,sevalprocAttr];refine ⟨cg.fn rfl hB ?_⟩;simp only [go_sem,sevalprocAttr]
  repeat' (first|omega|(try apply aj);simp only [go_sem,sevalprocAttr,b1]|(refine ⟨az.fn (r:=?_) rfl ?_ ?_⟩;rotate_left;assumption)|(refine ⟨cg.fn (r:=?_) rfl ?_ ?_⟩;rotate_left;assumption)|apply ag<;>(intro h_;(try simp only [h_]);revert h_)|apply ah|apply ai|apply ae|apply And.intro|with_reducible intro h_|trivial|simp only [go_sem,ak];omega)
  all_goals exact aM.refl _
 ·have e1:q=nG m s.length L w:=(h2.congr fun e=>by unfold fu;rw [if_neg mi,show e- -3*w=e+3*w by omega];omega).eq pO;rw [e1] at hN;have b1:(w.tmod 2 !=0)=true:=by rw [bne_iff_ne];intro h;exact mi (Int.emod_eq_zero_of_dvd (Int.dvd_of_tmod_eq_zero h))
  refine Fn.au [.cell 2 29, .tmp 3] Tryz.func23 rfl rfl (by decide) (by simp [Tryz.ntmps23]) ?_;rw [Tryz.ntmps23]
  repeat' (first|omega|(first|apply aj|(refine an.intro (id:=3) uX [[],[0],[0],[],[],[],[5],[0,1,2,3,4,5,6],[6],[]] (by decide+kernel) mixed ?_)|skip);simp only [go_sem,sevalprocAttr,↓reduceIte,reduceCtorEq,uX]|apply ag<;>(intro h_;(try simp only [h_]);revert h_)|apply ah|apply ai|apply ae|apply And.intro|with_reducible intro h_|trivial|simp only [go_sem,ak];omega)
  refine ⟨az.fn rfl hV ?_⟩
  repeat' (first|omega|(first|apply aj|(refine an.intro (id:=3) uX [[],[0],[0],[],[],[],[5],[0,1,2,3,4,5,6],[6],[]] (by decide+kernel) mixed ?_)|skip);simp only [go_sem,sevalprocAttr,↓reduceIte,reduceCtorEq,uX]|apply ag<;>(intro h_;(try simp only [h_]);revert h_)|apply ah|apply ai|apply ae|apply And.intro|with_reducible intro h_|trivial|simp only [go_sem,ak];omega)
  refine ⟨cg.fn rfl hO ?_⟩;simp only [go_sem,sevalprocAttr];refine ⟨cg.fn rfl hB ?_⟩;simp only [go_sem,sevalprocAttr]
  repeat' (first|omega|(try apply aj);simp only [go_sem,sevalprocAttr,b1]|(refine ⟨az.fn (r:=?_) rfl ?_ ?_⟩;rotate_left;assumption)|(refine ⟨cg.fn (r:=?_) rfl ?_ ?_⟩;rotate_left;assumption)|apply ag<;>(intro h_;(try simp only [h_]);revert h_)|apply ah|apply ai|apply ae|apply And.intro|with_reducible intro h_|trivial|simp only [go_sem,ak];omega)
  all_goals exact aM.refl _
section
variable {P:Program} {B:Nat} {w0:ik} {Mx:Nat->Prop} {N:Nat}
end
end Go.Proofs.YtphjphpmfflfpaaGreatDoor
