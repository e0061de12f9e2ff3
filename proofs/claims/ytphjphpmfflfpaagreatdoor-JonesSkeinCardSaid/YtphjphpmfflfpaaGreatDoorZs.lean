/- Layer 12: the coefficient of a power. -/
import Derived.Test.YtphjphpmfflfpaaGreatDoorZd
import Derived.Test.YtphjphpmfflfpaaGreatDoorZi
import Derived.Test.YtphjphpmfflfpaaGreatDoorZc
import Derived.Test.YtphjphpmfflfpaaGreatDoorZr
import Derived.Test.YtphjphpmfflfpaaGreatDoorZq
import Derived.Test.YtphjphpmfflfpaaGreatDoorZo
namespace Go.Proofs.YtphjphpmfflfpaaGreatDoor
open Go Go.RowKit
set_option maxRecDepth 100000
set_option maxHeartbeats 8000000
set_option linter.unusedVariables false
set_option linter.unusedSimpArgs false
def lT (a b:Int):Int:=if a<b then-1 else if b<a then 1 else 0
theorem NV (a:Int):Fn Tryz.prog 159 [I a] (.bool false):=by
 have h:(a !=a)=false:=by simp
 refine Fn.intro [.tmp 2] Tryz.func159 rfl rfl (by decide) (by simp [Tryz.ntmps159]) ?_;rw [Tryz.ntmps159]
 repeat' (first|omega|(try apply aj);simp only [go_sem,sevalprocAttr,h]|apply ag<;>(intro h_;(try simp only [h_]);revert h_)|apply ah|apply ai|apply ae|apply And.intro|with_reducible intro h_|trivial|simp only [go_sem,ak];omega)
theorem Tn (a b:Int):Fn Tryz.prog 116 [I a,I b] (I (lT a b)):=by
 have ha:=NV a;have hb:=NV b;unfold lT;by_cases h1:a<b
 ·rw [if_pos h1];have b1:decide (a<b)=true:=by simpa using h1
  refine Fn.intro [.tmp 4] Tryz.func116 rfl rfl (by decide) (by simp [Tryz.ntmps116]) ?_;rw [Tryz.ntmps116]
  repeat' (first|omega|(try apply aj);simp only [go_sem,sevalprocAttr,b1]|(refine ⟨az.fn (r:=?_) rfl ?_ ?_⟩;rotate_left;assumption)|(refine ⟨cg.fn (r:=?_) rfl ?_ ?_⟩;rotate_left;assumption)|apply ag<;>(intro h_;(try simp only [h_]);revert h_)|apply ah|apply ai|apply ae|apply And.intro|with_reducible intro h_|trivial|simp only [go_sem,ak];omega)
 ·rw [if_neg h1];have b1:decide (a<b)=false:=by simpa using h1
  by_cases h2:b<a
  ·rw [if_pos h2];have b2:decide (b<a)=true:=by simpa using h2
   refine Fn.intro [.tmp 4] Tryz.func116 rfl rfl (by decide) (by simp [Tryz.ntmps116]) ?_;rw [Tryz.ntmps116]
   repeat' (first|omega|(try apply aj);simp only [go_sem,sevalprocAttr,b1,b2]|(refine ⟨az.fn (r:=?_) rfl ?_ ?_⟩;rotate_left;assumption)|(refine ⟨cg.fn (r:=?_) rfl ?_ ?_⟩;rotate_left;assumption)|apply ag<;>(intro h_;(try simp only [h_]);revert h_)|apply ah|apply ai|apply ae|apply And.intro|with_reducible intro h_|trivial|simp only [go_sem,ak];omega)
  ·rw [if_neg h2];have b2:decide (b<a)=false:=by simpa using h2
   refine Fn.intro [.tmp 4] Tryz.func116 rfl rfl (by decide) (by simp [Tryz.ntmps116]) ?_;rw [Tryz.ntmps116]
   repeat' (first|omega|(try apply aj);simp only [go_sem,sevalprocAttr,b1,b2]|(refine ⟨az.fn (r:=?_) rfl ?_ ?_⟩;rotate_left;assumption)|(refine ⟨cg.fn (r:=?_) rfl ?_ ?_⟩;rotate_left;assumption)|apply ag<;>(intro h_;(try simp only [h_]);revert h_)|apply ah|apply ai|apply ae|apply And.intro|with_reducible intro h_|trivial|simp only [go_sem,ak];omega)
theorem NU (x c e:Int):Fn Tryz.prog 115 [.agg [I x,I c],I e] (I (lT x e)):=by
 have h:=Tn x e;refine Fn.intro [.tmp 4] Tryz.func115 rfl rfl (by decide) (by simp [Tryz.ntmps115]) ?_;rw [Tryz.ntmps115]
 repeat' (first|omega|(try apply aj);simp only [go_sem,sevalprocAttr,h]|(refine ⟨az.fn (r:=?_) rfl ?_ ?_⟩;rotate_left;assumption)|(refine ⟨cg.fn (r:=?_) rfl ?_ ?_⟩;rotate_left;assumption)|apply ag<;>(intro h_;(try simp only [h_]);revert h_)|apply ah|apply ai|apply ae|apply And.intro|with_reducible intro h_|trivial|simp only [go_sem,ak];omega)
def iC (p:List (Int×Int)) (e:Int):Nat:=p.countP fun t=>decide (t.1<e)
theorem I6 {p:List (Int×Int)} {e:Int} {i:Nat} (hi:i<=p.length) (h1: ∀k,k<i->(p.getD k (0,0)).1<e) (h2: ∀k,i<=k->k<p.length-> ¬(p.getD k (0,0)).1<e):iC p e=i:=by
 have e1:p=p.take i++p.drop i:=(List.take_append_drop i p).symm;unfold iC;rw [e1,List.countP_append];have a:(p.take i).countP (fun t=>decide (t.1<e))=(p.take i).length:=by
  rw [List.countP_eq_length];intro t ht;obtain ⟨k,hk,rfl⟩:=List.mem_iff_getElem.1 ht;simp only [List.length_take] at hk
  have:=h1 k (by omega)
  rw [List.getElem_take];simp only [List.getD_eq_getElem?_getD,List.getElem?_eq_getElem (show k<p.length by omega),Option.getD_some] at this;simpa using this
 have b:(p.drop i).countP (fun t=>decide (t.1<e))=0:=by
  rw [List.countP_eq_zero];intro t ht;obtain ⟨k,hk,rfl⟩:=List.mem_iff_getElem.1 ht;simp only [List.length_drop] at hk
  have:=h2 (i+k) (by omega) (by omega)
  rw [List.getElem_drop];simp only [List.getD_eq_getElem?_getD,List.getElem?_eq_getElem (show i+k<p.length by omega),Option.getD_some] at this;simpa using this
 rw [a,b,List.length_take];omega
theorem MB {p:List (Int×Int)} (h:bG p) {i j:Nat} (fC:i<j) (hj:j<p.length):(p.getD i (0,0)).1<(p.getD j (0,0)).1:=by
 have:=List.pairwise_iff_getElem.1 h.asc i j (by omega) hj fC
 simpa [List.getD_eq_getElem?_getD,List.getElem?_eq_getElem (show i<p.length by omega),List.getElem?_eq_getElem hj] using this
theorem OW {p:List (Int×Int)} (h:bG p) (e:Int):iC p e<=p.length/\(∀k,k<iC p e->(p.getD k (0,0)).1<e)/\ ∀k,iC p e<=k->k<p.length-> ¬(p.getD k (0,0)).1<e:=by
 have key: ∀n,n<=p.length-> ∃i,i<=n/\(∀k,k<i->(p.getD k (0,0)).1<e)/\ ∀k,i<=k->k<n-> ¬(p.getD k (0,0)).1<e:=fun n=>by
  induction n with
  |zero=>exact fun _=>⟨0,by omega,fun k hk=>by omega,fun k _ hk=>by omega⟩
  |succ n ih=>
   intro hn;obtain ⟨i,h0,h1,h2⟩:=ih (by omega);by_cases hx:(p.getD n (0,0)).1<e
   ·have dr:i=n:=Nat.le_antisymm h0 (Nat.le_of_not_lt fun aA=>h2 i (Nat.le_refl _) aA (by have:=MB h aA (by omega);omega));subst dr;refine ⟨i+1,by omega,fun k hk=>?_,fun k hk nh=>by omega⟩;by_cases hki:k<i
    ·exact h1 k hki
    ·rw [show k=i by omega];exact hx
   ·refine ⟨i,by omega,h1,fun k hk nh=>?_⟩;by_cases uw:k<n
    ·exact h2 k hk uw
    ·rw [show k=n by omega];exact hx
 obtain ⟨i,h0,h1,h2⟩:=key p.length (Nat.le_refl _);rw [I6 h0 h1 h2];exact ⟨h0,h1,h2⟩
def tz (p:List (Int×Int)) (e:Int):Bool:=decide (iC p e<p.length)&&((p.getD (iC p e) (0,0)).1==e)
theorem Tm (p:List (Int×Int)) (e:Int) (h:bG p) (hl:p.length<=1000000):Fn Tryz.prog 114 [tmA p,I e, .fn 115 []] (.tup [I (iC p e), .bool (tz p e)]):=by
 obtain ⟨s0,s1,s2⟩:=OW h e;have hlen:=ybu p;refine Fn.intro [.tmp 6, .tmp 7] Tryz.func114 rfl rfl (by decide) (by simp [Tryz.ntmps114]) ?_;rw [Tryz.ntmps114]
 repeat' (first|omega|(try apply aj);simp only [go_sem,sevalprocAttr]|apply ag<;>(intro h_;(try simp only [h_]);revert h_)|apply ah|apply ai|apply ae|apply And.intro|with_reducible intro h_|trivial|simp only [go_sem,ak];omega)
 refine bN.intro (fun n fr H=> ∃i j:Nat,i<=iC p e/\iC p e<=j/\j<=p.length/\n=j-i/\fr=[(10,I j),(9,I i),(8,I p.length),(2, .fn 115 []),(1,I e),(0,tmA p)]/\H=[]) ?_ ?_
 ·refine ⟨_,_,_,Wk.sub ?_ ?_,0,p.length,by omega,s0,by omega,rfl,rfl,rfl⟩<;>(simp only [go_sem,sevalprocAttr,yav])
 rintro n fr H ⟨i,j,hi,hj,bY,rfl,rfl,rfl⟩;by_cases fC:i<j
 ·have De:decide ((i:Int)<j)=true:=by simpa using fC
  have e1:IntKind.u64.wrap ((i:Int)+j)=(i:Int)+j:=by rw [IntKind.wrap_u64];omega
  obtain ⟨k,hk⟩: ∃k:Nat,k=(i+j)/2:=⟨_,rfl⟩;have e2:IntKind.i64.wrap (((i:Int)+j)/2^1)=(k:Nat):=by rw [IntWalk.i64_in _ (by omega)];omega
  have e3:IntKind.i64.wrap (((i:Int)+j)/2)=(k:Nat):=e2;have bJ:k<p.length:=by omega
  have g0:=oF p k bJ;have g1:=s6 p k bJ;have hC:=NU (p.getD k (0,0)).1 (p.getD k (0,0)).2 e;by_cases hx:(p.getD k (0,0)).1<e
  ·have hb:decide (lT (p.getD k (0,0)).1 e<0)=true:=by unfold lT;rw [if_pos hx];rfl
   have R8:k<iC p e:=Nat.lt_of_not_le fun hle=>s2 k hle bJ hx
   repeat' (first|omega|(try apply aj);simp only [go_sem,sevalprocAttr,De,e1,e2,e3,g0,g1,hlen]|apply ag<;>(intro h_;(try simp only [h_]);revert h_)|apply ah|apply ai|apply ae|apply And.intro|with_reducible intro h_|trivial|simp only [go_sem,ak];omega)
   refine ⟨az.fn rfl hC ?_⟩
   repeat' (first|omega|(try apply aj);simp only [go_sem,sevalprocAttr,hb]|apply ag<;>(intro h_;(try simp only [h_]);revert h_)|apply ah|apply ai|apply ae|apply And.intro|with_reducible intro h_|trivial|simp only [go_sem,ak];omega)
   refine ⟨_,_,_,?_,Wk.sub ?_ ?_,k+1,j,by omega,by omega,by omega,rfl,rfl,rfl⟩
   ·omega
   ·simp only [go_sem,sevalprocAttr,yav]
   ·simp only [go_sem,sevalprocAttr]
  ·have hb:decide (lT (p.getD k (0,0)).1 e<0)=false:=by unfold lT;rw [if_neg hx];split<;>rfl
   have R8:iC p e<=k:=Nat.le_of_not_lt fun aA=>hx (s1 k aA)
   repeat' (first|omega|(try apply aj);simp only [go_sem,sevalprocAttr,De,e1,e2,e3,g0,g1,hlen]|apply ag<;>(intro h_;(try simp only [h_]);revert h_)|apply ah|apply ai|apply ae|apply And.intro|with_reducible intro h_|trivial|simp only [go_sem,ak];omega)
   refine ⟨az.fn rfl hC ?_⟩
   repeat' (first|omega|(try apply aj);simp only [go_sem,sevalprocAttr,hb]|apply ag<;>(intro h_;(try simp only [h_]);revert h_)|apply ah|apply ai|apply ae|apply And.intro|with_reducible intro h_|trivial|simp only [go_sem,ak];omega)
   refine ⟨_,_,_,?_,Wk.sub ?_ ?_,i,k,by omega,by omega,by omega,rfl,rfl,rfl⟩
   ·omega
   ·simp only [go_sem,sevalprocAttr,yav]
   ·simp only [go_sem,sevalprocAttr]
 ·obtain rfl:i=j:=by omega
  obtain rfl:i=iC p e:=by omega
  have De:decide (((iC p e:Nat):Int)<(iC p e:Nat))=false:=by simp
  by_cases hn:iC p e<p.length
  ·have bn:decide (((iC p e:Nat):Int)<(p.length:Nat))=true:=by simpa using hn
   have g0:=oF p _ hn;have g1:=s6 p _ hn;have hC:=NU (p.getD (iC p e) (0,0)).1 (p.getD (iC p e) (0,0)).2 e;have hx:=s2 _ (Nat.le_refl _) hn;have hB:tz p e=(lT (p.getD (iC p e) (0,0)).1 e==0):=by
    unfold tz lT;rw [decide_eq_true hn,if_neg hx,Bool.true_and];by_cases h3:e<(p.getD (iC p e) (0,0)).1
    ·rw [if_pos h3,beq_eq_false_iff_ne.2 (by omega)];rfl
    ·rw [if_neg h3,beq_iff_eq.2 (by omega)];rfl
   rw [hB]
   repeat' (first|omega|(try apply aj);simp only [go_sem,sevalprocAttr,De,bn,g0,g1,hlen]|apply ag<;>(intro h_;(try simp only [h_]);revert h_)|apply ah|apply ai|apply ae|apply And.intro|with_reducible intro h_|trivial|simp only [go_sem,ak];omega)
   refine ⟨az.fn rfl hC ?_⟩
   repeat' (first|omega|(try apply aj);simp only [go_sem,sevalprocAttr,bn]|apply ag<;>(intro h_;(try simp only [h_]);revert h_)|apply ah|apply ai|apply ae|apply And.intro|with_reducible intro h_|trivial|simp only [go_sem,ak];omega)
  ·have bn:decide (((iC p e:Nat):Int)<(p.length:Nat))=false:=by simpa using hn
   have hB:tz p e=false:=by unfold tz;rw [decide_eq_false hn];rfl
   rw [hB]
   repeat' (first|omega|(try apply aj);simp only [go_sem,sevalprocAttr,De,bn]|apply ag<;>(intro h_;(try simp only [h_]);revert h_)|apply ah|apply ai|apply ae|apply And.intro|with_reducible intro h_|trivial|simp only [go_sem,ak];omega)
theorem UI {p:List (Int×Int)} {e:Int} (h:bG p) (hb:tz p e=true):iC p e<p.length/\cfL p e=(p.getD (iC p e) (0,0)).2:=by
 unfold tz at hb;simp only [Bool.and_eq_true,decide_eq_true_eq,beq_iff_eq] at hb;refine ⟨hb.1,?_⟩
 have:=wD h (lY hb.1)
 rwa [hb.2] at this
theorem J7 {p:List (Int×Int)} {e:Int} (h:bG p) (hb:tz p e=false):cfL p e=0:=by
 refine pA fun t ht e1=>?_;obtain ⟨s0,s1,s2⟩:=OW h e;obtain ⟨k,hk,rfl⟩:=List.mem_iff_getElem.1 ht;have ek:p[k]=p.getD k (0,0):=by simp [hk]
 rw [ek] at e1;have h1:iC p e<=k:=Nat.le_of_not_lt fun aA=>by have:=s1 k aA;omega
 have h2:k<=iC p e:=Nat.le_of_not_lt fun aA=>s2 _ (Nat.le_refl _) (by omega) (by have:=MB h aA hk;omega);obtain rfl:k=iC p e:=by omega
 unfold tz at hb;rw [decide_eq_true hk,e1] at hb;simp at hb
theorem J6 (p:List (Int×Int)) (e:Int) (h:bG p) (hl:p.length<=1000000):Fn Tryz.prog 53 [plA false p,I e] (I (cfL p e)):=by
 have hB:=Tm p e h hl;have hlen:=ybu p;cases hb:tz p e with
 |true=>
  rw [hb] at hB;obtain ⟨h1,h2⟩:=UI h hb;have g0:=oF p _ h1;have g1:=s6 p _ h1;rw [h2];refine Fn.intro [.tmp 4] Tryz.func53 rfl rfl (by decide) (by simp [Tryz.ntmps53]) ?_;rw [Tryz.ntmps53]
  repeat' (first|omega|(try apply aj);simp only [go_sem,sevalprocAttr,g1]|apply ag<;>(intro h_;(try simp only [h_]);revert h_)|apply ah|apply ai|apply ae|apply And.intro|with_reducible intro h_|trivial|simp only [go_sem,ak];omega)
  refine ⟨az.fn rfl hB ?_⟩
  repeat' (first|omega|(try apply aj);simp only [go_sem,sevalprocAttr,g0,g1,hlen]|apply ag<;>(intro h_;(try simp only [h_]);revert h_)|apply ah|apply ai|apply ae|apply And.intro|with_reducible intro h_|trivial|simp only [go_sem,ak];omega)
 |false=>
  rw [hb] at hB;rw [J7 h hb];refine Fn.intro [.tmp 4] Tryz.func53 rfl rfl (by decide) (by simp [Tryz.ntmps53]) ?_;rw [Tryz.ntmps53]
  repeat' (first|omega|(try apply aj);simp only [go_sem,sevalprocAttr,hlen]|apply ag<;>(intro h_;(try simp only [h_]);revert h_)|apply ah|apply ai|apply ae|apply And.intro|with_reducible intro h_|trivial|simp only [go_sem,ak];omega)
  refine ⟨az.fn rfl hB ?_⟩
  repeat' (first|omega|(try apply aj);simp only [go_sem,sevalprocAttr,hlen]|apply ag<;>(intro h_;(try simp only [h_]);revert h_)|apply ah|apply ai|apply ae|apply And.intro|with_reducible intro h_|trivial|simp only [go_sem,ak];omega)
end Go.Proofs.YtphjphpmfflfpaaGreatDoor
set_option linter.unusedSimpArgs false
set_option linter.unusedVariables false
namespace Go.Proofs.YtphjphpmfflfpaaGreatDoor
open Go Go.RowKit
set_option maxRecDepth 100000
theorem I5 {p q:List (Int×Int)} {f g:Int->Int} (hp:bH p f) (hq:bH q g) (hs: ∀e,f e≠0-> -1000<=e/\e<=1000) (ht: ∀e,g e≠0-> -1000<=e/\e<=1000)
  (hf: ∀e,-562949953421312<=f e/\f e<=562949953421312) (hg: ∀e,-562949953421312<=g e/\g e<=562949953421312):
  ∃r,bH r (fun e=>f e+g e)/\Fn Tryz.prog 130 [plA false p,plA false q] (plA false r):=by
 have ha:=GP lU p q hp.asc.asc hq.asc.asc;have hc: ∀x,cfL (mrg lU p q) x=f x+g x:=fun x=>by rw [D4 lU rfl p q hp.asc.asc hq.asc.asc,hp.cf,hq.cf];rfl
 refine ⟨nz (mrg lU p q),⟨Gk ha,fun e=>by rw [Gl,hc]⟩,Jq p q (hp.fits fun e=>by have:=hf e;omega) (hq.fits fun e=>by have:=hg e;omega) (by have:=hp.len hs;omega) (by have:=hq.len ht;omega) ?_⟩;unfold mD;rw [List.all_eq_true];intro t ht
 have:=Hn ha ht
 rw [hc] at this;have h1:=hf t.1;have h2:=hg t.1;exact Az (by omega) (by omega)
set_option maxHeartbeats 8000000
def Du:List (List Nat):=[[23,24,25,26,27],[22,24,25,26],[22,23,25],[22,23,24],[22,23],[22],[],[]]
def iy (p:List (Int×Int)):Int:=if 0<p.length then aI p else 0
def rW (p:List (Int×Int)):Int:=if 0<p.length then fm p else 0
theorem J5 (p:List (Int×Int)):Fn Tryz.prog 51 [plA false p] (I (iy p)):=by
 unfold iy;by_cases h:0<p.length
 ·rw [if_pos h];exact Gi p h
 ·rw [if_neg h];obtain rfl:p=[]:=List.eq_nil_of_length_eq_zero (by omega);refine Fn.intro [.tmp 2] Tryz.func51 rfl rfl (by decide) (by simp [Tryz.ntmps51]) ?_;rw [Tryz.ntmps51]
  repeat' (first|omega|(try apply aj);simp only [go_sem,sevalprocAttr]|apply ag<;>(intro h_;(try simp only [h_]);revert h_)|apply ah|apply ai|apply ae|apply And.intro|with_reducible intro h_|trivial|simp only [go_sem,ak];omega)
theorem V0 (p:List (Int×Int)) (hp:p.length<=1000000):Fn Tryz.prog 52 [plA false p] (I (rW p)):=by
 unfold rW;by_cases h:0<p.length
 ·rw [if_pos h];exact GO p h hp
 ·rw [if_neg h];obtain rfl:p=[]:=List.eq_nil_of_length_eq_zero (by omega);refine Fn.intro [.tmp 2] Tryz.func52 rfl rfl (by decide) (by simp [Tryz.ntmps52]) ?_;rw [Tryz.ntmps52]
  repeat' (first|omega|(try apply aj);simp only [go_sem,sevalprocAttr]|apply ag<;>(intro h_;(try simp only [h_]);revert h_)|apply ah|apply ai|apply ae|apply And.intro|with_reducible intro h_|trivial|simp only [go_sem,ak];omega)
def pE (f:Int->Int) (to:Int->Int) (lo:Int) (k:Nat) (x:Int):Int:=sm (fun i=>if to (lo+i)=x then f (lo+i) else 0) k
theorem MA {g:Nat->Int} {B:Int} (hB:0<=B) (hb: ∀i,-B<=g i/\g i<=B): ∀n,(∀i j,i<n->j<n->g i≠0->g j≠0->i=j)-> -B<=sm g n/\sm g n<=B
 |0,_=>by simp [sm];omega
 |n+1,h=>by
  have ih:=MA hB hb n fun i j hi hj=>h i j (by omega) (by omega)
  have:=hb n
  simp only [sm];by_cases h0:g n=0
  ·omega
  ·have hz:sm g n=0:=by
    have:sm g n=sm (fun _=>0) n:=iQ fun i hi=>by
     by_cases e:g i=0
     ·exact e
     ·exact absurd (h i n (by omega) (by omega) e h0) (by omega)
    rw [this,qx];omega
   omega
theorem F9 {f to:Int->Int} {lo:Int} {k:Nat} {x e:Int} (hs: ∀e,f e≠0->lo<=e/\e<lo+k) (xu: ∀a b,f a≠0->f b≠0->to a=to b->a=b) (he:to e=x) (hf:f e≠0):pE f to lo k x=f e:=by
 have hr:=hs e hf;unfold pE;rw [DM (a:=(e-lo).toNat) (by omega) fun i hi aw=>?_]
 ·rw [show lo+((e-lo).toNat:Int)=e by omega,if_pos he]
 ·by_cases h:to (lo+i)=x
  ·rw [if_pos h];refine Decidable.byContradiction fun h0=>?_
   have:=xu _ _ h0 hf (h.trans he.symm)
   omega
  ·rw [if_neg h]
theorem Hh {f to:Int->Int} {lo:Int} {k:Nat} {x:Int} (h: ∀e,f e≠0->to e≠x):pE f to lo k x=0:=by
 unfold pE;rw [iQ (g:=fun _=>0) fun i _=>?_,qx]
 ·omega
 ·by_cases h1:to (lo+i)=x
  ·rw [if_pos h1];exact Decidable.byContradiction fun h0=>h _ h0 h1
  ·rw [if_neg h1]
theorem VZ (c e:Int) (hc: -1125899906842624<=c/\c<=1125899906842624) (he: -1000<=e/\e<=1000):Fn Tryz.prog 131 [I c,I e] (plA false (yV c e)):=UG c e hc (by omega)
theorem IC (p:List (Int×Int)) (f to:Int->Int) (g:Nat) (h:bH p f) (hs: ∀e,f e≠0-> -500<=e/\e<=500) (hb: ∀e,-70368744177664<=f e/\f e<=70368744177664) (xu: ∀a b,f a≠0->f b≠0->to a=to b->a=b)
  (w5: ∀e,-1000<=e->e<=1000->Fn Tryz.prog g [I e] (I (to e))/\ -1000<=to e/\to e<=1000):
  ∃r,bH r (fun x=>pE f to (iy p) (rW p-iy p+1).toNat x)/\Fn Tryz.prog 72 [plA false p, .fn g []] (plA false r):=by
 have jK:=h.len fun e he=>by have:=hs e he;omega
 have hL:=J5 p;have hH:=V0 p (by omega);have kx: -500<=iy p/\iy p<=500/\iy p<=rW p/\rW p<=500:=by
  unfold iy rW;by_cases h0:0<p.length
  ·rw [if_pos h0,if_pos h0];have a:=hs _ (h.mem (lY (i:=0) h0)).2;have b:=hs _ (h.mem (lY (i:=p.length-1) (by omega))).2;have c:=(tK h.asc (lY (i:=p.length-1) (by omega))).1;exact ⟨a.1,a.2,c,b.2⟩
  ·rw [if_neg h0,if_neg h0];omega
 have sC: ∀k e,pE f to (iy p) k e≠0-> -1000<=e/\e<=1000:=fun k e he=>by
  obtain ⟨i,hi,h1⟩:=FW he;by_cases ht:to (iy p+i)=e
  ·rw [if_pos ht] at h1
   have:=hs _ h1
   have:=(w5 (iy p+i) (by omega) (by omega)).2
   omega
  ·rw [if_neg ht] at h1;exact absurd rfl h1
 have SG: ∀k e,-70368744177664<=pE f to (iy p) k e/\pE f to (iy p) k e<=70368744177664:=fun k e=>
  MA (g:=fun i:Nat=>if to (iy p+i)=e then f (iy p+i) else 0) (by decide) (fun i=>by have:=hb (iy p+i);split<;>omega) k fun i j _ _ hi hj=>by
   by_cases h1:to (iy p+i)=e
   ·by_cases h2:to (iy p+j)=e
    ·rw [if_pos h1] at hi;rw [if_pos h2] at hj
     have:=xu _ _ hi hj (h1.trans h2.symm)
     omega
    ·rw [if_neg h2] at hj;exact absurd rfl hj
   ·rw [if_neg h1] at hi;exact absurd rfl hi
 refine ⟨_,sX (sC _),?_⟩;obtain ⟨lo,Cl⟩: ∃lo,iy p=lo:=⟨_,rfl⟩;obtain ⟨hi,Cu⟩: ∃hi,rW p=hi:=⟨_,rfl⟩;rw [Cl] at hL kx sC SG;rw [Cu] at hH kx;rw [Cl,Cu];obtain ⟨N,hN⟩: ∃N:Nat,(hi-lo+1).toNat=N:=⟨_,rfl⟩;rw [hN];refine Fn.au [.cell 4 29] Tryz.func72 rfl rfl (by decide) (by simp [Tryz.ntmps72]) ?_;rw [Tryz.ntmps72]
 repeat' (first|omega|(try apply aj);simp only [go_sem,sevalprocAttr]|apply ag<;>(intro h_;(try simp only [h_]);revert h_)|apply ah|apply ai|apply ae|apply And.intro|with_reducible intro h_|trivial|simp only [go_sem,ak];omega)
 refine ⟨az.fn rfl hL ?_⟩
 repeat' (first|omega|(try apply aj);simp only [go_sem,sevalprocAttr]|apply ag<;>(intro h_;(try simp only [h_]);revert h_)|apply ah|apply ai|apply ae|apply And.intro|with_reducible intro h_|trivial|simp only [go_sem,ak];omega)
 refine bN.intro (fun n fr H=> ∃(k:Nat) (q:List (Int×Int)) (y:AV),k<=N/\n=N-k/\bH q (fun x=>pE f to lo k x)/\(y=tmA q\/(q=[]/\y= .nils))/\fr=[(6,I (lo+k)),(5, .ptr 2 0),(4, .ptr 1 0),(2, .ptr 0 0),(1, .fn g [])]/\H=[(2, .cells 29 (.lst [.bool false,y])),(1, .cells 29 (.lst [.bool false, .nils])),(0, .cells 29 (.lst [.bool false,tmA p]))]) ?_ ?_
 ·refine ⟨_,_,_,Wk.sub ?_ ?_,0,[], .nils,by omega,rfl,bH.nil.congr fun x=>rfl, .inr ⟨rfl,rfl⟩,rfl,rfl⟩
  ·simp only [go_sem,sevalprocAttr]
  ·(simp only [go_sem,sevalprocAttr,yav])<;>rfl
 rintro n fr H ⟨k,q,y,hk,rfl,hq,hy,rfl,rfl⟩;by_cases fO:k<N
 ·have bk:decide (lo+(k:Int)<=hi)=true:=by rw [decide_eq_true_iff];omega
  have hC:=J6 p (lo+k) h.asc (by omega);rw [h.cf] at hC;by_cases h0:f (lo+k)=0
  ·have b0:(f (lo+k)!=0)=false:=by rw [h0];rfl
   have ti:bH q (fun x=>pE f to lo (k+1) x):=hq.congr fun x=>by
    unfold pE;simp only [sm];rw [h0]
    split<;>omega
   rcases hy with rfl|⟨rfl,rfl⟩
   ·repeat' (first|omega|(try apply aj);simp only [go_sem,sevalprocAttr,bk,b0]|(refine ⟨az.fn (r:=?_) rfl ?_ ?_⟩;rotate_left;assumption)|(refine ⟨cg.fn (r:=?_) rfl ?_ ?_⟩;rotate_left;assumption)|apply ag<;>(intro h_;(try simp only [h_]);revert h_)|apply ah|apply ai|apply ae|apply And.intro|with_reducible intro h_|trivial|simp only [go_sem,ak];omega)
    refine ⟨_,_,_,?_,Wk.sub ?_ ?_,k+1,q,_,by omega,rfl,ti, .inl rfl,rfl,rfl⟩
    ·omega
    ·(simp only [go_sem,sevalprocAttr])<;>omega
    ·(simp only [go_sem,sevalprocAttr,yav])<;>rfl
   ·repeat' (first|omega|(try apply aj);simp only [go_sem,sevalprocAttr,bk,b0]|(refine ⟨az.fn (r:=?_) rfl ?_ ?_⟩;rotate_left;assumption)|(refine ⟨cg.fn (r:=?_) rfl ?_ ?_⟩;rotate_left;assumption)|apply ag<;>(intro h_;(try simp only [h_]);revert h_)|apply ah|apply ai|apply ae|apply And.intro|with_reducible intro h_|trivial|simp only [go_sem,ak];omega)
    refine ⟨_,_,_,?_,Wk.sub ?_ ?_,k+1,[],_,by omega,rfl,ti, .inr ⟨rfl,rfl⟩,rfl,rfl⟩
    ·omega
    ·(simp only [go_sem,sevalprocAttr])<;>omega
    ·(simp only [go_sem,sevalprocAttr,yav])<;>rfl
  ·have b0:(f (lo+k)!=0)=true:=by rw [bne_iff_ne];exact h0
   have k6:=hb (lo+k);obtain ⟨kz,aX⟩:=w5 (lo+k) (by omega) (by omega);have hT:=VZ (f (lo+k)) (to (lo+k)) (by omega) aX;have ht:=JB (f (lo+k)) (to (lo+k));obtain ⟨r,hr,hA⟩:=I5 hq ht (sC k) (fun e he=>by
    by_cases h1:e=to (lo+k)
    ·rw [h1];exact aX
    ·rw [if_neg h1] at he;exact absurd rfl he) (fun e=>by have:=SG k e;omega) (fun e=>by split<;>omega)
   have iN:bH r (fun x=>pE f to lo (k+1) x):=hr.congr fun x=>by
    unfold pE;simp only [sm];congr 1;by_cases h1:x=to (lo+k)
    ·rw [if_pos h1,if_pos h1.symm]
    ·rw [if_neg h1,if_neg (Ne.symm h1)]
   rcases hy with rfl|⟨rfl,rfl⟩
   ·repeat' (first|omega|(first|apply aj|(refine an.intro (id:=7) Du [[],[0],[0,1],[0,1,2],[0,1],[0],[],[]] (by decide+kernel) mixed ?_)|skip);simp only [go_sem,sevalprocAttr,bk,b0,↓reduceIte,reduceCtorEq,Du]|(refine ⟨az.fn (r:=?_) rfl ?_ ?_⟩;rotate_left;assumption)|(refine ⟨cg.fn (r:=?_) rfl ?_ ?_⟩;rotate_left;assumption)|apply ag<;>(intro h_;(try simp only [h_]);revert h_)|apply ah|apply ai|apply ae|apply And.intro|with_reducible intro h_|trivial|simp only [go_sem,ak];omega)
    refine ⟨_,_,_,?_,Wk.sub ?_ ?_,k+1,r,_,by omega,rfl,iN, .inl rfl,rfl,rfl⟩
    ·omega
    ·(simp only [go_sem,sevalprocAttr])<;>omega
    ·(simp only [go_sem,sevalprocAttr,yav])<;>rfl
   ·have hA':Fn Tryz.prog 130 [.agg [.bool false, .nils],plA false (yV (f (lo+k)) (to (lo+k)))] (plA false r):=hA.arg (.cons (aM.j7 (.cons (aM.refl _) (.cons (aM.nils (by decide) rfl) .nil))) (.cons (aM.refl _) .nil))
    repeat' (first|omega|(first|apply aj|(refine an.intro (id:=7) Du [[],[0],[0,1],[0,1,2],[0,1],[0],[],[]] (by decide+kernel) mixed ?_)|skip);simp only [go_sem,sevalprocAttr,bk,b0,↓reduceIte,reduceCtorEq,Du]|(refine ⟨az.fn (r:=?_) rfl ?_ ?_⟩;rotate_left;assumption)|(refine ⟨cg.fn (r:=?_) rfl ?_ ?_⟩;rotate_left;assumption)|apply ag<;>(intro h_;(try simp only [h_]);revert h_)|apply ah|apply ai|apply ae|apply And.intro|with_reducible intro h_|trivial|simp only [go_sem,ak];omega)
    refine ⟨_,_,_,?_,Wk.sub ?_ ?_,k+1,r,_,by omega,rfl,iN, .inl rfl,rfl,rfl⟩
    ·omega
    ·(simp only [go_sem,sevalprocAttr])<;>omega
    ·(simp only [go_sem,sevalprocAttr,yav])<;>rfl
 ·obtain rfl:k=N:=by omega
  have bk:decide (lo+(k:Int)<=hi)=false:=by rw [decide_eq_false_iff_not];omega
  have e1:=hq.eq (sC k);rw [←e1];rcases hy with rfl|⟨rfl,rfl⟩
  ·repeat' (first|omega|(try apply aj);simp only [go_sem,sevalprocAttr,bk]|(refine ⟨az.fn (r:=?_) rfl ?_ ?_⟩;rotate_left;assumption)|(refine ⟨cg.fn (r:=?_) rfl ?_ ?_⟩;rotate_left;assumption)|apply ag<;>(intro h_;(try simp only [h_]);revert h_)|apply ah|apply ai|apply ae|apply And.intro|with_reducible intro h_|trivial|simp only [go_sem,ak];omega)
   all_goals exact aM.refl _
  ·repeat' (first|omega|(try apply aj);simp only [go_sem,sevalprocAttr,bk]|(refine ⟨az.fn (r:=?_) rfl ?_ ?_⟩;rotate_left;assumption)|(refine ⟨cg.fn (r:=?_) rfl ?_ ?_⟩;rotate_left;assumption)|apply ag<;>(intro h_;(try simp only [h_]);revert h_)|apply ah|apply ai|apply ae|apply And.intro|with_reducible intro h_|trivial|simp only [go_sem,ak];omega)
   all_goals exact aM.j7 (.cons (aM.refl _) (.cons (aM.nils (es:=2) (by decide) rfl) .nil))
theorem ji (x:Int):(x % 2=0->2*x.tdiv 2=x)/\(-1000<=x->x<=1000-> -1000<=x.tdiv 2/\x.tdiv 2<=1000):=by
 by_cases h:0<=x
 ·rw [Int.tdiv_eq_ediv_of_nonneg h];omega
 ·obtain ⟨y,rfl⟩: ∃y,x= -y:=⟨-x,by omega⟩;rw [Int.neg_tdiv,Int.tdiv_eq_ediv_of_nonneg (by omega)];omega
theorem WB (e:Int) (h0: -1000<=e) (h1:e<=1000):Fn Tryz.prog 73 [I e] (I ((0-e).tdiv 2)):=by
 have hr:=(ji (0-e)).2 (by omega) (by omega);refine Fn.intro [.tmp 2] Tryz.func73 rfl rfl (by decide) (by simp [Tryz.ntmps73]) ?_;rw [Tryz.ntmps73]
 repeat' (first|omega|(try apply aj);simp only [go_sem,sevalprocAttr]|apply ag<;>(intro h_;(try simp only [h_]);revert h_)|apply ah|apply ai|apply ae|apply And.intro|with_reducible intro h_|trivial|simp only [go_sem,ak];omega)
def jY (m:List Int) (n L:Nat) (w x:Int):Int:=fu m n L w (-(2*x))
theorem VY (s m:List Int) (L:Nat) (hs:s.length<=9) (hL:L<=20) (hv:dm s m L=true) (aw: ¬(s.length=0/\L=0)) (iS: ∀e,fu m s.length L (b8 s s.length) e≠0->(e-2*(((j8 s m).length:Int)+L-1))% 4=0):Fn Tryz.prog 24 [dgA s m L] (.tup [plA false (dJ (jY m s.length L (b8 s s.length))),I 0]):=by
 have hP:=Aw s m L hs hL hv aw;have hp:=fA hv;have v1:=jC hv;have wV:=zQ v1.sg s.length (Nat.le_refl _);generalize b8 s s.length=w at*;have hj:=Dv (w:=w) hp hs hL (by omega);have pO:=fun e (he:fu m s.length L w e≠0)=>pz hp hs hL (by omega) he
 obtain ⟨r,hr,hT⟩:=IC (nG m s.length L w) (fu m s.length L w) (fun e=>(0-e).tdiv 2) 73 hj (fun e he=>by have:=pO e he;omega) (Ar hp hs hL) (fun a b ha hb fh=>by
  have:=iS a ha;have:=iS b hb;have:=(ji (0-a)).1 (by omega);have:=(ji (0-b)).1 (by omega);omega) (fun e h0 h1=>⟨WB e h0 h1,(ji _).2 (by omega) (by omega)⟩)
 have Ft: ∀e,fu m s.length L w e≠0->iy (nG m s.length L w)<=e/\e<iy (nG m s.length L w)+(rW (nG m s.length L w)-iy (nG m s.length L w)+1).toNat:=fun e he=>by
  have h1:=hj.cf e;obtain ⟨t,ht,rfl⟩:=you (by rw [h1];exact he);have hlen:0<(nG m s.length L w).length:=List.length_pos_of_mem ht
  have:=tK hj.asc ht
  unfold iy rW;rw [if_pos hlen,if_pos hlen];omega
 have iN:bH r (jY m s.length L w):=hr.congr fun x=>by
  by_cases h0:fu m s.length L w (-(2*x))=0
  ·rw [Hh fun e he hex=>?_]
   ·unfold jY;rw [h0]
   ·have:=iS e he
    have:=(ji (0-e)).1 (by omega)
    have:e= -(2*x):=by omega
    rw [this] at he;exact he h0
  ·rw [F9 Ft (fun a b ha hb fh=>by have:=iS a ha;have:=iS b hb;have:=(ji (0-a)).1 (by omega);have:=(ji (0-b)).1 (by omega);omega) (e:= -(2*x)) (by have:=(ji (0- -(2*x))).1 (by omega);omega) h0];rfl
 have e1:=iN.eq fun e he=>by have:=pO _ he;omega
 rw [e1] at hT;generalize nG m s.length L w=p at*;generalize dJ (jY m s.length L w)=q at*;refine Fn.au [.cell 2 29, .tmp 3] Tryz.func24 rfl rfl (by decide) (by simp [Tryz.ntmps24]) ?_;rw [Tryz.ntmps24]
 repeat' (first|omega|(try apply aj);simp only [go_sem,sevalprocAttr,hP]|(refine ⟨az.fn (r:=?_) rfl ?_ ?_⟩;rotate_left;assumption)|(refine ⟨cg.fn (r:=?_) rfl ?_ ?_⟩;rotate_left;assumption)|apply ag<;>(intro h_;(try simp only [h_]);revert h_)|apply ah|apply ai|apply ae|apply And.intro|with_reducible intro h_|trivial|simp only [go_sem,ak];omega)
 all_goals exact aM.refl _
end Go.Proofs.YtphjphpmfflfpaaGreatDoor
