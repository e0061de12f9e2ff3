/- Layer 12: the coefficient of a power. -/
import Derived.Test.YtmdjdekgakidhaaGreatDoorZe
import Derived.Test.YtmdjdekgakidhaaGreatDoorZc
import Derived.Test.YtmdjdekgakidhaaGreatDoorZa
import Derived.Test.YtmdjdekgakidhaaGreatDoorZt
import Derived.Test.YtmdjdekgakidhaaGreatDoorZg
import Derived.Test.YtmdjdekgakidhaaGreatDoorZi
namespace Go.Proofs.YtmdjdekgakidhaaGreatDoor
open Go Go.RowKit
set_option maxRecDepth 100000
set_option maxHeartbeats 8000000
set_option linter.unusedVariables false
set_option linter.unusedSimpArgs false
def ln (a b:Int):Int:=if a<b then-1 else if b<a then 1 else 0
theorem Ol (a:Int):Fn Tryz.prog 149 [I a] (.bool false):=by
 have h:(a !=a)=false:=by simp
 refine Fn.intro [.tmp 2] Tryz.func149 rfl rfl (by decide) (by simp [Tryz.ntmps149]) ?_;rw [Tryz.ntmps149]
 repeat' (first|omega|(try apply ag);simp only [go_sem,sevalprocAttr,h]|apply ae<;>(intro h_;(try simp only [h_]);revert h_)|apply And.intro|with_reducible intro h_|trivial|simp only [go_sem,ah];omega)
theorem XI (a b:Int):Fn Tryz.prog 130 [I a,I b] (I (ln a b)):=by
 have ha:=Ol a;have hb:=Ol b;unfold ln;by_cases h1:a<b
 ·rw [if_pos h1];have b1:decide (a<b)=true:=by simpa using h1
  refine Fn.intro [.tmp 4] Tryz.func130 rfl rfl (by decide) (by simp [Tryz.ntmps130]) ?_;rw [Tryz.ntmps130]
  repeat' (first|omega|(try apply ag);simp only [go_sem,sevalprocAttr,b1]|(refine ⟨au.fn (r:=?_) rfl ?_ ?_⟩;rotate_left;assumption)|(refine ⟨bI.fn (r:=?_) rfl ?_ ?_⟩;rotate_left;assumption)|apply ae<;>(intro h_;(try simp only [h_]);revert h_)|apply And.intro|with_reducible intro h_|trivial|simp only [go_sem,ah];omega)
 ·rw [if_neg h1];have b1:decide (a<b)=false:=by simpa using h1
  by_cases h2:b<a
  ·rw [if_pos h2];have b2:decide (b<a)=true:=by simpa using h2
   refine Fn.intro [.tmp 4] Tryz.func130 rfl rfl (by decide) (by simp [Tryz.ntmps130]) ?_;rw [Tryz.ntmps130]
   repeat' (first|omega|(try apply ag);simp only [go_sem,sevalprocAttr,b1,b2]|(refine ⟨au.fn (r:=?_) rfl ?_ ?_⟩;rotate_left;assumption)|(refine ⟨bI.fn (r:=?_) rfl ?_ ?_⟩;rotate_left;assumption)|apply ae<;>(intro h_;(try simp only [h_]);revert h_)|apply And.intro|with_reducible intro h_|trivial|simp only [go_sem,ah];omega)
  ·rw [if_neg h2];have b2:decide (b<a)=false:=by simpa using h2
   refine Fn.intro [.tmp 4] Tryz.func130 rfl rfl (by decide) (by simp [Tryz.ntmps130]) ?_;rw [Tryz.ntmps130]
   repeat' (first|omega|(try apply ag);simp only [go_sem,sevalprocAttr,b1,b2]|(refine ⟨au.fn (r:=?_) rfl ?_ ?_⟩;rotate_left;assumption)|(refine ⟨bI.fn (r:=?_) rfl ?_ ?_⟩;rotate_left;assumption)|apply ae<;>(intro h_;(try simp only [h_]);revert h_)|apply And.intro|with_reducible intro h_|trivial|simp only [go_sem,ah];omega)
theorem Ok (x c e:Int):Fn Tryz.prog 129 [.agg [I x,I c],I e] (I (ln x e)):=by
 have h:=XI x e;refine Fn.intro [.tmp 4] Tryz.func129 rfl rfl (by decide) (by simp [Tryz.ntmps129]) ?_;rw [Tryz.ntmps129]
 repeat' (first|omega|(try apply ag);simp only [go_sem,sevalprocAttr,h]|(refine ⟨au.fn (r:=?_) rfl ?_ ?_⟩;rotate_left;assumption)|(refine ⟨bI.fn (r:=?_) rfl ?_ ?_⟩;rotate_left;assumption)|apply ae<;>(intro h_;(try simp only [h_]);revert h_)|apply And.intro|with_reducible intro h_|trivial|simp only [go_sem,ah];omega)
def iz (p:List (Int×Int)) (e:Int):Nat:=p.countP fun t=>decide (t.1<e)
theorem IA {p:List (Int×Int)} {e:Int} {i:Nat} (hi:i<=p.length) (h1: ∀k,k<i->(p.getD k (0,0)).1<e) (h2: ∀k,i<=k->k<p.length-> ¬(p.getD k (0,0)).1<e):iz p e=i:=by
 have e1:p=p.take i++p.drop i:=(List.take_append_drop i p).symm;unfold iz;rw [e1,List.countP_append];have a:(p.take i).countP (fun t=>decide (t.1<e))=(p.take i).length:=by
  rw [List.countP_eq_length];intro t ht;obtain ⟨k,hk,rfl⟩:=List.mem_iff_getElem.1 ht;simp only [List.length_take] at hk
  have:=h1 k (by omega)
  rw [List.getElem_take];simp only [zzB,zzI (show k<p.length by omega),Option.getD_some] at this;simpa using this
 have b:(p.drop i).countP (fun t=>decide (t.1<e))=0:=by
  rw [List.countP_eq_zero];intro t ht;obtain ⟨k,hk,rfl⟩:=List.mem_iff_getElem.1 ht;simp only [List.length_drop] at hk
  have:=h2 (i+k) (by omega) (by omega)
  rw [List.getElem_drop];simp only [zzB,zzI (show i+k<p.length by omega),Option.getD_some] at this;simpa using this
 rw [a,b,List.length_take];omega
theorem MS {p:List (Int×Int)} (h:bR p) {i j:Nat} (fG:i<j) (hj:j<p.length):(p.getD i (0,0)).1<(p.getD j (0,0)).1:=by
 have:=List.pairwise_iff_getElem.1 h.asc i j (by omega) hj fG
 simpa [zzB,zzI (show i<p.length by omega),zzI hj] using this
theorem P8 {p:List (Int×Int)} (h:bR p) (e:Int):iz p e<=p.length/\(∀k,k<iz p e->(p.getD k (0,0)).1<e)/\ ∀k,iz p e<=k->k<p.length-> ¬(p.getD k (0,0)).1<e:=by
 have key: ∀n,n<=p.length-> ∃i,i<=n/\(∀k,k<i->(p.getD k (0,0)).1<e)/\ ∀k,i<=k->k<n-> ¬(p.getD k (0,0)).1<e:=fun n=>by
  induction n with
  |zero=>exact fun _=>⟨0,by omega,fun k hk=>by omega,fun k _ hk=>by omega⟩
  |succ n ih=>
   intro hn;obtain ⟨i,h0,h1,h2⟩:=ih (by omega);by_cases hx:(p.getD n (0,0)).1<e
   ·have gQ:i=n:=Nat.le_antisymm h0 (Nat.le_of_not_lt fun ax=>h2 i (zzA _) ax (by have:=MS h ax (by omega);omega));subst gQ;refine ⟨i+1,by omega,fun k hk=>?_,fun k hk rE=>by omega⟩;by_cases hki:k<i
    ·exact h1 k hki
    ·rw [show k=i by omega];exact hx
   ·refine ⟨i,by omega,h1,fun k hk rE=>?_⟩;by_cases s8:k<n
    ·exact h2 k hk s8
    ·rw [show k=n by omega];exact hx
 obtain ⟨i,h0,h1,h2⟩:=key p.length (zzA _);rw [IA h0 h1 h2];exact ⟨h0,h1,h2⟩
def tg (p:List (Int×Int)) (e:Int):Bool:=decide (iz p e<p.length)&&((p.getD (iz p e) (0,0)).1==e)
theorem XH (p:List (Int×Int)) (e:Int) (h:bR p) (hl:p.length<=1000000):Fn Tryz.prog 128 [tmA p,I e, .fn 129 []] (.tup [I (iz p e), .bool (tg p e)]):=by
 obtain ⟨s0,s1,s2⟩:=P8 h e;have hlen:=ya9 p;refine Fn.intro [.tmp 6, .tmp 7] Tryz.func128 rfl rfl (by decide) (by simp [Tryz.ntmps128]) ?_;rw [Tryz.ntmps128]
 repeat' (first|omega|(try apply ag);simp only [go_sem,sevalprocAttr]|apply ae<;>(intro h_;(try simp only [h_]);revert h_)|apply And.intro|with_reducible intro h_|trivial|simp only [go_sem,ah];omega)
 refine aR.intro (fun n fr H=> ∃i j:Nat,i<=iz p e/\iz p e<=j/\j<=p.length/\n=j-i/\fr=[(10,I j),(9,I i),(8,I p.length),(2, .fn 129 []),(1,I e),(0,tmA p)]/\H=[]) ?_ ?_
 ·refine ⟨_,_,_,Wk.sub ?_ ?_,0,p.length,by omega,s0,by omega,rfl,rfl,rfl⟩<;>(simp only [go_sem,sevalprocAttr,yaj])
 rintro n fr H ⟨i,j,hi,hj,b9,rfl,rfl,rfl⟩;by_cases fG:i<j
 ·have CR:decide ((i:Int)<j)=true:=by simpa using fG
  have e1:IntKind.u64.wrap ((i:Int)+j)=(i:Int)+j:=by rw [IntKind.wrap_u64];omega
  obtain ⟨k,hk⟩: ∃k:Nat,k=(i+j)/2:=⟨_,rfl⟩;have e2:IntKind.i64.wrap (((i:Int)+j)/2^1)=(k:Nat):=by rw [IntWalk.i64_in _ (by omega)];omega
  have e3:IntKind.i64.wrap (((i:Int)+j)/2)=(k:Nat):=e2;have bM:k<p.length:=by omega
  have g0:=kJ p k bM;have g1:=nP p k bM;have hC:=Ok (p.getD k (0,0)).1 (p.getD k (0,0)).2 e;by_cases hx:(p.getD k (0,0)).1<e
  ·have hb:decide (ln (p.getD k (0,0)).1 e<0)=true:=by unfold ln;rw [if_pos hx];rfl
   have S8:k<iz p e:=Nat.lt_of_not_le fun hle=>s2 k hle bM hx
   repeat' (first|omega|(try apply ag);simp only [go_sem,sevalprocAttr,CR,e1,e2,e3,g0,g1,hlen]|apply ae<;>(intro h_;(try simp only [h_]);revert h_)|apply And.intro|with_reducible intro h_|trivial|simp only [go_sem,ah];omega)
   refine ⟨au.fn rfl hC ?_⟩
   repeat' (first|omega|(try apply ag);simp only [go_sem,sevalprocAttr,hb]|apply ae<;>(intro h_;(try simp only [h_]);revert h_)|apply And.intro|with_reducible intro h_|trivial|simp only [go_sem,ah];omega)
   refine ⟨_,_,_,?_,Wk.sub ?_ ?_,k+1,j,by omega,by omega,by omega,rfl,rfl,rfl⟩
   ·omega
   ·simp only [go_sem,sevalprocAttr,yaj]
   ·simp only [go_sem,sevalprocAttr]
  ·have hb:decide (ln (p.getD k (0,0)).1 e<0)=false:=by unfold ln;rw [if_neg hx];split<;>rfl
   have S8:iz p e<=k:=Nat.le_of_not_lt fun ax=>hx (s1 k ax)
   repeat' (first|omega|(try apply ag);simp only [go_sem,sevalprocAttr,CR,e1,e2,e3,g0,g1,hlen]|apply ae<;>(intro h_;(try simp only [h_]);revert h_)|apply And.intro|with_reducible intro h_|trivial|simp only [go_sem,ah];omega)
   refine ⟨au.fn rfl hC ?_⟩
   repeat' (first|omega|(try apply ag);simp only [go_sem,sevalprocAttr,hb]|apply ae<;>(intro h_;(try simp only [h_]);revert h_)|apply And.intro|with_reducible intro h_|trivial|simp only [go_sem,ah];omega)
   refine ⟨_,_,_,?_,Wk.sub ?_ ?_,i,k,by omega,by omega,by omega,rfl,rfl,rfl⟩
   ·omega
   ·simp only [go_sem,sevalprocAttr,yaj]
   ·simp only [go_sem,sevalprocAttr]
 ·obtain rfl:i=j:=by omega
  obtain rfl:i=iz p e:=by omega
  have CR:decide (((iz p e:Nat):Int)<(iz p e:Nat))=false:=by simp
  by_cases hn:iz p e<p.length
  ·have bn:decide (((iz p e:Nat):Int)<(p.length:Nat))=true:=by simpa using hn
   have g0:=kJ p _ hn;have g1:=nP p _ hn;have hC:=Ok (p.getD (iz p e) (0,0)).1 (p.getD (iz p e) (0,0)).2 e;have hx:=s2 _ (zzA _) hn;have hB:tg p e=(ln (p.getD (iz p e) (0,0)).1 e==0):=by
    unfold tg ln;rw [decide_eq_true hn,if_neg hx,Bool.true_and];by_cases h3:e<(p.getD (iz p e) (0,0)).1
    ·rw [if_pos h3,beq_eq_false_iff_ne.2 (by omega)];rfl
    ·rw [if_neg h3,beq_iff_eq.2 (by omega)];rfl
   rw [hB]
   repeat' (first|omega|(try apply ag);simp only [go_sem,sevalprocAttr,CR,bn,g0,g1,hlen]|apply ae<;>(intro h_;(try simp only [h_]);revert h_)|apply And.intro|with_reducible intro h_|trivial|simp only [go_sem,ah];omega)
   refine ⟨au.fn rfl hC ?_⟩
   repeat' (first|omega|(try apply ag);simp only [go_sem,sevalprocAttr,bn]|apply ae<;>(intro h_;(try simp only [h_]);revert h_)|apply And.intro|with_reducible intro h_|trivial|simp only [go_sem,ah];omega)
  ·have bn:decide (((iz p e:Nat):Int)<(p.length:Nat))=false:=by simpa using hn
   have hB:tg p e=false:=by unfold tg;rw [decide_eq_false hn];rfl
   rw [hB]
   repeat' (first|omega|(try apply ag);simp only [go_sem,sevalprocAttr,CR,bn]|apply ae<;>(intro h_;(try simp only [h_]);revert h_)|apply And.intro|with_reducible intro h_|trivial|simp only [go_sem,ah];omega)
theorem Jx {p:List (Int×Int)} {e:Int} (h:bR p) (hb:tg p e=true):iz p e<p.length/\cfL p e=(p.getD (iz p e) (0,0)).2:=by
 unfold tg at hb;simp only [Bool.and_eq_true,decide_eq_true_eq,beq_iff_eq] at hb;refine ⟨hb.1,?_⟩
 have:=vb h (iO hb.1)
 rwa [hb.2] at this
theorem Jw {p:List (Int×Int)} {e:Int} (h:bR p) (hb:tg p e=false):cfL p e=0:=by
 refine oX fun t ht e1=>?_;obtain ⟨s0,s1,s2⟩:=P8 h e;obtain ⟨k,hk,rfl⟩:=List.mem_iff_getElem.1 ht;have ek:p[k]=p.getD k (0,0):=by simp [hk]
 rw [ek] at e1;have h1:iz p e<=k:=Nat.le_of_not_lt fun ax=>by have:=s1 k ax;omega
 have h2:k<=iz p e:=Nat.le_of_not_lt fun ax=>s2 _ (zzA _) (by omega) (by have:=MS h ax hk;omega);obtain rfl:k=iz p e:=by omega
 unfold tg at hb;rw [decide_eq_true hk,e1] at hb;simp at hb
theorem Jv (p:List (Int×Int)) (e:Int) (h:bR p) (hl:p.length<=1000000):Fn Tryz.prog 95 [plA false p,I e] (I (cfL p e)):=by
 have hB:=XH p e h hl;have hlen:=ya9 p;cases hb:tg p e with
 |true=>
  rw [hb] at hB;obtain ⟨h1,h2⟩:=Jx h hb;have g0:=kJ p _ h1;have g1:=nP p _ h1;rw [h2];refine Fn.intro [.tmp 4] Tryz.func95 rfl rfl (by decide) (by simp [Tryz.ntmps95]) ?_;rw [Tryz.ntmps95]
  repeat' (first|omega|(try apply ag);simp only [go_sem,sevalprocAttr,g1]|apply ae<;>(intro h_;(try simp only [h_]);revert h_)|apply And.intro|with_reducible intro h_|trivial|simp only [go_sem,ah];omega)
  refine ⟨au.fn rfl hB ?_⟩
  repeat' (first|omega|(try apply ag);simp only [go_sem,sevalprocAttr,g0,g1,hlen]|apply ae<;>(intro h_;(try simp only [h_]);revert h_)|apply And.intro|with_reducible intro h_|trivial|simp only [go_sem,ah];omega)
 |false=>
  rw [hb] at hB;rw [Jw h hb];refine Fn.intro [.tmp 4] Tryz.func95 rfl rfl (by decide) (by simp [Tryz.ntmps95]) ?_;rw [Tryz.ntmps95]
  repeat' (first|omega|(try apply ag);simp only [go_sem,sevalprocAttr,hlen]|apply ae<;>(intro h_;(try simp only [h_]);revert h_)|apply And.intro|with_reducible intro h_|trivial|simp only [go_sem,ah];omega)
  refine ⟨au.fn rfl hB ?_⟩
  repeat' (first|omega|(try apply ag);simp only [go_sem,sevalprocAttr,hlen]|apply ae<;>(intro h_;(try simp only [h_]);revert h_)|apply And.intro|with_reducible intro h_|trivial|simp only [go_sem,ah];omega)
end Go.Proofs.YtmdjdekgakidhaaGreatDoor
set_option linter.unusedSimpArgs false
set_option linter.unusedVariables false
namespace Go.Proofs.YtmdjdekgakidhaaGreatDoor
open Go Go.RowKit
set_option maxRecDepth 100000
theorem Iz {p q:List (Int×Int)} {f g:Int->Int} (hp:aV p f) (hq:aV q g) (hs: ∀e,f e≠0-> -1000<=e/\e<=1000) (ht: ∀e,g e≠0-> -1000<=e/\e<=1000)
  (hf: ∀e,-562949953421312<=f e/\f e<=562949953421312) (hg: ∀e,-562949953421312<=g e/\g e<=562949953421312):
  ∃r,aV r (fun e=>f e+g e)/\Fn Tryz.prog 96 [plA false p,plA false q] (plA false r):=by
 have ha:=NI lr p q hp.asc.asc hq.asc.asc;have hc: ∀x,cfL (mrg lr p q) x=f x+g x:=fun x=>by rw [GK lr rfl p q hp.asc.asc hq.asc.asc,hp.cf,hq.cf];rfl
 refine ⟨nz (mrg lr p q),⟨Sn ha,fun e=>by rw [So,hc]⟩,I8 p q (hp.fits fun e=>by have:=hf e;omega) (hq.fits fun e=>by have:=hg e;omega) (by have:=hp.len hs;omega) (by have:=hq.len ht;omega) ?_⟩;unfold nO;rw [List.all_eq_true];intro t ht
 have:=Hb ha ht
 rw [hc] at this;have h1:=hf t.1;have h2:=hg t.1;exact He (by omega) (by omega)
set_option maxHeartbeats 8000000
def Dc:List (List Nat):=[[23,24,25,26,27],[22,24,25,26],[22,23,25],[22,23,24],[22,23],[22],[],[]]
def ig (p:List (Int×Int)):Int:=if 0<p.length then aH p else 0
def rI (p:List (Int×Int)):Int:=if 0<p.length then gS p else 0
theorem Ju (p:List (Int×Int)):Fn Tryz.prog 36 [plA false p] (I (ig p)):=by
 unfold ig;by_cases h:0<p.length
 ·rw [if_pos h];exact FZ p h
 ·rw [if_neg h];obtain rfl:p=[]:=List.eq_nil_of_length_eq_zero (by omega);refine Fn.intro [.tmp 2] Tryz.func36 rfl rfl (by decide) (by simp [Tryz.ntmps36]) ?_;rw [Tryz.ntmps36]
  repeat' (first|omega|(try apply ag);simp only [go_sem,sevalprocAttr]|apply ae<;>(intro h_;(try simp only [h_]);revert h_)|apply And.intro|with_reducible intro h_|trivial|simp only [go_sem,ah];omega)
theorem VJ (p:List (Int×Int)) (hp:p.length<=1000000):Fn Tryz.prog 37 [plA false p] (I (rI p)):=by
 unfold rI;by_cases h:0<p.length
 ·rw [if_pos h];exact GB p h hp
 ·rw [if_neg h];obtain rfl:p=[]:=List.eq_nil_of_length_eq_zero (by omega);refine Fn.intro [.tmp 2] Tryz.func37 rfl rfl (by decide) (by simp [Tryz.ntmps37]) ?_;rw [Tryz.ntmps37]
  repeat' (first|omega|(try apply ag);simp only [go_sem,sevalprocAttr]|apply ae<;>(intro h_;(try simp only [h_]);revert h_)|apply And.intro|with_reducible intro h_|trivial|simp only [go_sem,ah];omega)
def o9 (f:Int->Int) (to:Int->Int) (lo:Int) (k:Nat) (x:Int):Int:=sm (fun i=>if to (lo+i)=x then f (lo+i) else 0) k
theorem MR {g:Nat->Int} {B:Int} (hB:0<=B) (hb: ∀i,-B<=g i/\g i<=B): ∀n,(∀i j,i<n->j<n->g i≠0->g j≠0->i=j)-> -B<=sm g n/\sm g n<=B
 |0,_=>by simp [sm];omega
 |n+1,h=>by
  have ih:=MR hB hb n fun i j hi hj=>h i j (by omega) (by omega)
  have:=hb n
  simp only [sm];by_cases h0:g n=0
  ·omega
  ·have hz:sm g n=0:=by
    have:sm g n=sm (fun _=>0) n:=kK fun i hi=>by
     by_cases e:g i=0
     ·exact e
     ·exact absurd (h i n (by omega) (by omega) e h0) (by omega)
    rw [this,qj];omega
   omega
theorem FO {f to:Int->Int} {lo:Int} {k:Nat} {x e:Int} (hs: ∀e,f e≠0->lo<=e/\e<lo+k) (w6: ∀a b,f a≠0->f b≠0->to a=to b->a=b) (he:to e=x) (hf:f e≠0):o9 f to lo k x=f e:=by
 have hr:=hs e hf;unfold o9;rw [Ds (a:=(e-lo).toNat) (by omega) fun i hi av=>?_]
 ·rw [show lo+((e-lo).toNat:Int)=e by omega,if_pos he]
 ·by_cases h:to (lo+i)=x
  ·rw [if_pos h];refine Decidable.byContradiction fun h0=>?_
   have:=w6 _ _ h0 hf (h.trans he.symm)
   omega
  ·rw [if_neg h]
theorem Hs {f to:Int->Int} {lo:Int} {k:Nat} {x:Int} (h: ∀e,f e≠0->to e≠x):o9 f to lo k x=0:=by
 unfold o9;rw [kK (g:=fun _=>0) fun i _=>?_,qj]
 ·omega
 ·by_cases h1:to (lo+i)=x
  ·rw [if_pos h1];exact Decidable.byContradiction fun h0=>h _ h0 h1
  ·rw [if_neg h1]
theorem VI (c e:Int) (hc: -1125899906842624<=c/\c<=1125899906842624) (he: -1000<=e/\e<=1000):Fn Tryz.prog 97 [I c,I e] (plA false (yK c e)):=Jy c e hc (by omega)
theorem Il (p:List (Int×Int)) (f to:Int->Int) (g:Nat) (h:aV p f) (hs: ∀e,f e≠0-> -500<=e/\e<=500) (hb: ∀e,-70368744177664<=f e/\f e<=70368744177664) (w6: ∀a b,f a≠0->f b≠0->to a=to b->a=b)
  (EZ: ∀e,-1000<=e->e<=1000->Fn Tryz.prog g [I e] (I (to e))/\ -1000<=to e/\to e<=1000):
  ∃r,aV r (fun x=>o9 f to (ig p) (rI p-ig p+1).toNat x)/\Fn Tryz.prog 53 [plA false p, .fn g []] (plA false r):=by
 have iI:=h.len fun e he=>by have:=hs e he;omega
 have hL:=Ju p;have hH:=VJ p (by omega);have iv: -500<=ig p/\ig p<=500/\ig p<=rI p/\rI p<=500:=by
  unfold ig rI;by_cases h0:0<p.length
  ·rw [if_pos h0,if_pos h0];have a:=hs _ (h.mem (iO (i:=0) h0)).2;have b:=hs _ (h.mem (iO (i:=p.length-1) (by omega))).2;have c:=(tw h.asc (iO (i:=p.length-1) (by omega))).1;exact ⟨a.1,a.2,c,b.2⟩
  ·rw [if_neg h0,if_neg h0];omega
 have se: ∀k e,o9 f to (ig p) k e≠0-> -1000<=e/\e<=1000:=fun k e he=>by
  obtain ⟨i,hi,h1⟩:=xK he;by_cases ht:to (ig p+i)=e
  ·rw [if_pos ht] at h1
   have:=hs _ h1
   have:=(EZ (ig p+i) (by omega) (by omega)).2
   omega
  ·rw [if_neg ht] at h1;exact absurd rfl h1
 have TF: ∀k e,-70368744177664<=o9 f to (ig p) k e/\o9 f to (ig p) k e<=70368744177664:=fun k e=>
  MR (g:=fun i:Nat=>if to (ig p+i)=e then f (ig p+i) else 0) (by decide) (fun i=>by have:=hb (ig p+i);split<;>omega) k fun i j _ _ hi hj=>by
   by_cases h1:to (ig p+i)=e
   ·by_cases h2:to (ig p+j)=e
    ·rw [if_pos h1] at hi;rw [if_pos h2] at hj
     have:=w6 _ _ hi hj (h1.trans h2.symm)
     omega
    ·rw [if_neg h2] at hj;exact absurd rfl hj
   ·rw [if_neg h1] at hi;exact absurd rfl hi
 refine ⟨_,nQ (se _),?_⟩;obtain ⟨lo,BX⟩: ∃lo,ig p=lo:=⟨_,rfl⟩;obtain ⟨hi,B8⟩: ∃hi,rI p=hi:=⟨_,rfl⟩;rw [BX] at hL iv se TF;rw [B8] at hH iv;rw [BX,B8];obtain ⟨N,hN⟩: ∃N:Nat,(hi-lo+1).toNat=N:=⟨_,rfl⟩;rw [hN];refine Fn.ai [.cell 4 29] Tryz.func53 rfl rfl (by decide) (by simp [Tryz.ntmps53]) ?_;rw [Tryz.ntmps53]
 repeat' (first|omega|(try apply ag);simp only [go_sem,sevalprocAttr]|apply ae<;>(intro h_;(try simp only [h_]);revert h_)|apply And.intro|with_reducible intro h_|trivial|simp only [go_sem,ah];omega)
 refine ⟨au.fn rfl hL ?_⟩
 repeat' (first|omega|(try apply ag);simp only [go_sem,sevalprocAttr]|apply ae<;>(intro h_;(try simp only [h_]);revert h_)|apply And.intro|with_reducible intro h_|trivial|simp only [go_sem,ah];omega)
 refine aR.intro (fun n fr H=> ∃(k:Nat) (q:List (Int×Int)) (y:AV),k<=N/\n=N-k/\aV q (fun x=>o9 f to lo k x)/\(y=tmA q\/(q=[]/\y= .nils))/\fr=[(6,I (lo+k)),(5, .ptr 2 0),(4, .ptr 1 0),(2, .ptr 0 0),(1, .fn g [])]/\H=[(2, .cells 29 (.lst [.bool false,y])),(1, .cells 29 (.lst [.bool false, .nils])),(0, .cells 29 (.lst [.bool false,tmA p]))]) ?_ ?_
 ·refine ⟨_,_,_,Wk.sub ?_ ?_,0,[], .nils,by omega,rfl,aV.nil.congr fun x=>rfl, .inr ⟨rfl,rfl⟩,rfl,rfl⟩
  ·simp only [go_sem,sevalprocAttr]
  ·(simp only [go_sem,sevalprocAttr,yaj])<;>rfl
 rintro n fr H ⟨k,q,y,hk,rfl,hq,hy,rfl,rfl⟩;by_cases fR:k<N
 ·have bk:decide (lo+(k:Int)<=hi)=true:=by rw [decide_eq_true_iff];omega
  have hC:=Jv p (lo+k) h.asc (by omega);rw [h.cf] at hC;by_cases h0:f (lo+k)=0
  ·have b0:(f (lo+k)!=0)=false:=by rw [h0];rfl
   have sX:aV q (fun x=>o9 f to lo (k+1) x):=hq.congr fun x=>by
    unfold o9;simp only [sm];rw [h0]
    split<;>omega
   rcases hy with rfl|⟨rfl,rfl⟩
   ·repeat' (first|omega|(try apply ag);simp only [go_sem,sevalprocAttr,bk,b0]|(refine ⟨au.fn (r:=?_) rfl ?_ ?_⟩;rotate_left;assumption)|(refine ⟨bI.fn (r:=?_) rfl ?_ ?_⟩;rotate_left;assumption)|apply ae<;>(intro h_;(try simp only [h_]);revert h_)|apply And.intro|with_reducible intro h_|trivial|simp only [go_sem,ah];omega)
    refine ⟨_,_,_,?_,Wk.sub ?_ ?_,k+1,q,_,by omega,rfl,sX, .inl rfl,rfl,rfl⟩
    ·omega
    ·(simp only [go_sem,sevalprocAttr])<;>omega
    ·(simp only [go_sem,sevalprocAttr,yaj])<;>rfl
   ·repeat' (first|omega|(try apply ag);simp only [go_sem,sevalprocAttr,bk,b0]|(refine ⟨au.fn (r:=?_) rfl ?_ ?_⟩;rotate_left;assumption)|(refine ⟨bI.fn (r:=?_) rfl ?_ ?_⟩;rotate_left;assumption)|apply ae<;>(intro h_;(try simp only [h_]);revert h_)|apply And.intro|with_reducible intro h_|trivial|simp only [go_sem,ah];omega)
    refine ⟨_,_,_,?_,Wk.sub ?_ ?_,k+1,[],_,by omega,rfl,sX, .inr ⟨rfl,rfl⟩,rfl,rfl⟩
    ·omega
    ·(simp only [go_sem,sevalprocAttr])<;>omega
    ·(simp only [go_sem,sevalprocAttr,yaj])<;>rfl
  ·have b0:(f (lo+k)!=0)=true:=by rw [bne_iff_ne];exact h0
   have kv:=hb (lo+k);obtain ⟨ke,aU⟩:=EZ (lo+k) (by omega) (by omega);have hT:=VI (f (lo+k)) (to (lo+k)) (by omega) aU;have ht:=I1 (f (lo+k)) (to (lo+k));obtain ⟨r,hr,hA⟩:=Iz hq ht (se k) (fun e he=>by
    by_cases h1:e=to (lo+k)
    ·rw [h1];exact aU
    ·rw [if_neg h1] at he;exact absurd rfl he) (fun e=>by have:=TF k e;omega) (fun e=>by split<;>omega)
   have iH:aV r (fun x=>o9 f to lo (k+1) x):=hr.congr fun x=>by
    unfold o9;simp only [sm];congr 1;by_cases h1:x=to (lo+k)
    ·rw [if_pos h1,if_pos h1.symm]
    ·rw [if_neg h1,if_neg (Ne.symm h1)]
   rcases hy with rfl|⟨rfl,rfl⟩
   ·repeat' (first|omega|(first|apply ag|(refine aj.intro (id:=7) Dc [[],[0],[0,1],[0,1,2],[0,1],[0],[],[]] (by decide+kernel) mixed ?_)|skip);simp only [go_sem,sevalprocAttr,bk,b0,↓reduceIte,reduceCtorEq,Dc]|(refine ⟨au.fn (r:=?_) rfl ?_ ?_⟩;rotate_left;assumption)|(refine ⟨bI.fn (r:=?_) rfl ?_ ?_⟩;rotate_left;assumption)|apply ae<;>(intro h_;(try simp only [h_]);revert h_)|apply And.intro|with_reducible intro h_|trivial|simp only [go_sem,ah];omega)
    refine ⟨_,_,_,?_,Wk.sub ?_ ?_,k+1,r,_,by omega,rfl,iH, .inl rfl,rfl,rfl⟩
    ·omega
    ·(simp only [go_sem,sevalprocAttr])<;>omega
    ·(simp only [go_sem,sevalprocAttr,yaj])<;>rfl
   ·have hA':Fn Tryz.prog 96 [.agg [.bool false, .nils],plA false (yK (f (lo+k)) (to (lo+k)))] (plA false r):=hA.arg (.cons (az.iA (.cons (az.refl _) (.cons (az.nils (by decide) rfl) .nil))) (.cons (az.refl _) .nil))
    repeat' (first|omega|(first|apply ag|(refine aj.intro (id:=7) Dc [[],[0],[0,1],[0,1,2],[0,1],[0],[],[]] (by decide+kernel) mixed ?_)|skip);simp only [go_sem,sevalprocAttr,bk,b0,↓reduceIte,reduceCtorEq,Dc]|(refine ⟨au.fn (r:=?_) rfl ?_ ?_⟩;rotate_left;assumption)|(refine ⟨bI.fn (r:=?_) rfl ?_ ?_⟩;rotate_left;assumption)|apply ae<;>(intro h_;(try simp only [h_]);revert h_)|apply And.intro|with_reducible intro h_|trivial|simp only [go_sem,ah];omega)
    refine ⟨_,_,_,?_,Wk.sub ?_ ?_,k+1,r,_,by omega,rfl,iH, .inl rfl,rfl,rfl⟩
    ·omega
    ·(simp only [go_sem,sevalprocAttr])<;>omega
    ·(simp only [go_sem,sevalprocAttr,yaj])<;>rfl
 ·obtain rfl:k=N:=by omega
  have bk:decide (lo+(k:Int)<=hi)=false:=by rw [decide_eq_false_iff_not];omega
  have e1:=hq.eq (se k);rw [←e1];rcases hy with rfl|⟨rfl,rfl⟩
  ·repeat' (first|omega|(try apply ag);simp only [go_sem,sevalprocAttr,bk]|(refine ⟨au.fn (r:=?_) rfl ?_ ?_⟩;rotate_left;assumption)|(refine ⟨bI.fn (r:=?_) rfl ?_ ?_⟩;rotate_left;assumption)|apply ae<;>(intro h_;(try simp only [h_]);revert h_)|apply And.intro|with_reducible intro h_|trivial|simp only [go_sem,ah];omega)
   all_goals exact az.refl _
  ·repeat' (first|omega|(try apply ag);simp only [go_sem,sevalprocAttr,bk]|(refine ⟨au.fn (r:=?_) rfl ?_ ?_⟩;rotate_left;assumption)|(refine ⟨bI.fn (r:=?_) rfl ?_ ?_⟩;rotate_left;assumption)|apply ae<;>(intro h_;(try simp only [h_]);revert h_)|apply And.intro|with_reducible intro h_|trivial|simp only [go_sem,ah];omega)
   all_goals exact az.iA (.cons (az.refl _) (.cons (az.nils (es:=2) (by decide) rfl) .nil))
theorem jc (x:Int):(x % 2=0->2*x.tdiv 2=x)/\(-1000<=x->x<=1000-> -1000<=x.tdiv 2/\x.tdiv 2<=1000):=by
 by_cases h:0<=x
 ·rw [Int.tdiv_eq_ediv_of_nonneg h];omega
 ·obtain ⟨y,rfl⟩: ∃y,x= -y:=⟨-x,by omega⟩;rw [Int.neg_tdiv,Int.tdiv_eq_ediv_of_nonneg (by omega)];omega
theorem Ws (e:Int) (h0: -1000<=e) (h1:e<=1000):Fn Tryz.prog 54 [I e] (I ((0-e).tdiv 2)):=by
 have hr:=(jc (0-e)).2 (by omega) (by omega);refine Fn.intro [.tmp 2] Tryz.func54 rfl rfl (by decide) (by simp [Tryz.ntmps54]) ?_;rw [Tryz.ntmps54]
 repeat' (first|omega|(try apply ag);simp only [go_sem,sevalprocAttr]|apply ae<;>(intro h_;(try simp only [h_]);revert h_)|apply And.intro|with_reducible intro h_|trivial|simp only [go_sem,ah];omega)
def dD (m:List Int) (n L:Nat) (w x:Int):Int:=fP m n L w (-(2*x))
theorem Oj (s m:List Int) (L:Nat) (hs:s.length<=9) (hL:L<=20) (hv:cX s m L=true) (av: ¬(s.length=0/\L=0)) (fW: ∀e,fP m s.length L (wrS s s.length) e≠0->(e-2*(((ff s m).length:Int)+L-1))% 4=0):Fn Tryz.prog 18 [dgA s m L] (.tup [plA false (bS (dD m s.length L (wrS s s.length))),I 0]):=by
 have hP:=Ht s m L hs hL hv av;have hp:=dI hv;have v1:=jb hv;have wM:=uO v1.sg s.length (zzA _);generalize wrS s s.length=w at*;have hj:=Df (w:=w) hp hs hL (by omega);have pw:=fun e (he:fP m s.length L w e≠0)=>qL hp hs hL (by omega) he
 obtain ⟨r,hr,hT⟩:=Il (ks m s.length L w) (fP m s.length L w) (fun e=>(0-e).tdiv 2) 54 hj (fun e he=>by have:=pw e he;omega) (yj hp hs hL) (fun a b ha hb fy=>by
  have:=fW a ha;have:=fW b hb;have:=(jc (0-a)).1 (by omega);have:=(jc (0-b)).1 (by omega);omega) (fun e h0 h1=>⟨Ws e h0 h1,(jc _).2 (by omega) (by omega)⟩)
 have Fb: ∀e,fP m s.length L w e≠0->ig (ks m s.length L w)<=e/\e<ig (ks m s.length L w)+(rI (ks m s.length L w)-ig (ks m s.length L w)+1).toNat:=fun e he=>by
  have h1:=hj.cf e;obtain ⟨t,ht,rfl⟩:=xZ (by rw [h1];exact he);have hlen:0<(ks m s.length L w).length:=List.length_pos_of_mem ht
  have:=tw hj.asc ht
  unfold ig rI;rw [if_pos hlen,if_pos hlen];omega
 have iH:aV r (dD m s.length L w):=hr.congr fun x=>by
  by_cases h0:fP m s.length L w (-(2*x))=0
  ·rw [Hs fun e he hex=>?_]
   ·unfold dD;rw [h0]
   ·have:=fW e he
    have:=(jc (0-e)).1 (by omega)
    have:e= -(2*x):=by omega
    rw [this] at he;exact he h0
  ·rw [FO Fb (fun a b ha hb fy=>by have:=fW a ha;have:=fW b hb;have:=(jc (0-a)).1 (by omega);have:=(jc (0-b)).1 (by omega);omega) (e:= -(2*x)) (by have:=(jc (0- -(2*x))).1 (by omega);omega) h0];rfl
 have e1:=iH.eq fun e he=>by have:=pw _ he;omega
 rw [e1] at hT;generalize ks m s.length L w=p at*;generalize bS (dD m s.length L w)=q at*;refine Fn.ai [.cell 2 29, .tmp 3] Tryz.func18 rfl rfl (by decide) (by simp [Tryz.ntmps18]) ?_;rw [Tryz.ntmps18]
 repeat' (first|omega|(try apply ag);simp only [go_sem,sevalprocAttr,hP]|(refine ⟨au.fn (r:=?_) rfl ?_ ?_⟩;rotate_left;assumption)|(refine ⟨bI.fn (r:=?_) rfl ?_ ?_⟩;rotate_left;assumption)|apply ae<;>(intro h_;(try simp only [h_]);revert h_)|apply And.intro|with_reducible intro h_|trivial|simp only [go_sem,ah];omega)
 all_goals exact az.refl _
end Go.Proofs.YtmdjdekgakidhaaGreatDoor
namespace Go.Proofs.YtmdjdekgakidhaaGreatDoor
open Go Go.RowKit Go.Shelf
set_option maxRecDepth 100000
set_option maxHeartbeats 8000000
theorem VR.on {w W:World} {Mx:Nat->Prop} {v:Value} {x:AV} (h:VR w Mx ρ0 (fun _=>False) v x) (hb:Below w.heap.size w W):VR W Mx ρ0 (fun _=>False) v x:=
 h.carry hb.size (fun b ax hm=>⟨hb.block b ax,hm⟩) (fun _ h=>h.elim)
theorem nj.on {w W:World} {Mx:Nat->Prop} (h:nj w Mx) (hb:Below w.heap.size w W):nj W Mx:=⟨h.1.later hb,fun b hm=>by have:=h.2 b hm;have:=hb.size;omega⟩
theorem Fn.c1 {P:Program} {f:Nat} {x r:AV} (h:Fn P f [x] r) {w:World} {Mx:Nat->Prop} (hM:nj w Mx) {v:Value} (hv:VR w Mx ρ0 (fun _=>False) v x):
  Calls P f #[v] w fun e w'=> ∃v',e= .returned v'/\Below w.heap.size w w'/\VR w' Mx ρ0 (fun _=>False) v' r:=
 h.2 w Mx [v] hM rfl fun i u y hu hy=>by
  match i,hu,hy with
  |0,hu,hy=>cases hu;cases hy;exact hv
theorem Fn.c2 {P:Program} {f:Nat} {x y r:AV} (h:Fn P f [x,y] r) {w:World} {Mx:Nat->Prop} (hM:nj w Mx) {v u:Value} (hv:VR w Mx ρ0 (fun _=>False) v x) (hu:VR w Mx ρ0 (fun _=>False) u y):
  Calls P f #[v,u] w fun e w'=> ∃v',e= .returned v'/\Below w.heap.size w w'/\VR w' Mx ρ0 (fun _=>False) v' r:=
 h.2 w Mx [v,u] hM rfl fun i u' y Bz hy=>by
  match i,Bz,hy with
  |0,Bz,hy=>cases Bz;cases hy;exact hv
  |1,Bz,hy=>cases Bz;cases hy;exact hu
theorem VR.so {w:World} {Mx:Nat->Prop} {v:Value} {s m:List Int} {L:Int} (h:VR w Mx ρ0 (fun _=>False) v (dgA s m L)): ∃a n k b n' k',v= .agg #[.slice a n k, .slice b n' k', .int .i64 L]:=by
 obtain ⟨us,rfl,wQ,hu⟩:=h.aL
 match us,wQ,hu with
 |[a,b,c],_,hu=>
  have h0:=hu 0 a _ rfl rfl;have h1:=hu 1 b _ rfl rfl;have h2:=(hu 2 c _ rfl rfl).an;subst h2;cases h0;cases h1;exact ⟨_,_,_,_,_,_,rfl⟩
theorem VR.kT {w:World} {Mx:Nat->Prop} {v:Value} {b:Bool} {p:List (Int×Int)} (h:VR w Mx ρ0 (fun _=>False) v (plA b p)): ∃a n k,v= .agg #[.bool b, .slice a n k]:=by
 obtain ⟨us,rfl,wQ,hu⟩:=h.aL
 match us,wQ,hu with
 |[a,c],_,hu=>
  have h0:=(hu 0 a _ rfl rfl).bool_inv;have h1:=hu 1 c _ rfl rfl;subst h0;cases h1;exact ⟨_,_,_,rfl⟩
theorem VR.mn {w:World} {Mx:Nat->Prop} {v:Value} {x y:AV} (h:VR w Mx ρ0 (fun _=>False) v (.tup [x,y])): ∃a b,v= .tuple #[a,b]/\VR w Mx ρ0 (fun _=>False) a x/\VR w Mx ρ0 (fun _=>False) b y:=by
 obtain ⟨us,rfl,wQ,hu⟩:=h.dy
 match us,wQ,hu with
 |[a,c],_,hu=>exact ⟨a,c,rfl,hu 0 a _ rfl rfl,hu 1 c _ rfl rfl⟩
theorem Wr (w:World):Lib.IsBuilderF 85 5 w.heap.size w.heap.size (Lib.byteCells []) (w.alloc (.cells #[.pointer none, .slice none 0 0] 85)):=by
 have e2:=Ak w (.cells #[.pointer none, .slice none 0 0] 85);exact .inl ⟨by omega, .slice none 0 0,e2,⟨rfl, .inl ⟨rfl,rfl⟩⟩,by simp [Value.ownBlock]⟩
structure JW (w:World) (d:Array Value) (W1:World) (pv:Array Value) (acc:List UInt8) (W:World):Prop where
 b0:Below w.heap.size w W
 c0:Below (w.heap.size+1) (w.alloc (.cells d 24)) W
 c1:Below (W1.heap.size+1) (W1.alloc (.cells pv 29)) W
 bl:Lib.IsBuilderF 85 5 (W1.heap.size+1) (W1.heap.size+1) (Lib.byteCells acc) W
section
variable {w W1 W W':World} {d pv:Array Value} {acc:List UInt8}
theorem uI (w:World) (o:Obj):(w.alloc o).heap.size=w.heap.size+1:=by show (w.heap.push o).size=_;simp
theorem JW.start (iy:Below (w.alloc (.cells d 24)).heap.size (w.alloc (.cells d 24)) W1):JW w d W1 pv [] ((W1.alloc (.cells pv 29)).alloc (.cells #[.pointer none, .slice none 0 0] 85)):=by
 have h1:=Wr (W1.alloc (.cells pv 29));have s0:=uI w (.cells d 24);have s1:=uI W1 (.cells pv 29);have z1:=iy.size;rw [s1] at h1;rw [s0] at iy z1;have hA:Below (w.heap.size+1) (w.alloc (.cells d 24)) ((W1.alloc (.cells pv 29)).alloc (.cells #[.pointer none, .slice none 0 0] 85)):=(iy.alloc (by omega) _).alloc (by rw [s1];omega) _
 have hw:Below w.heap.size w (w.alloc (.cells d 24)):=(Below.refl _ w).alloc (zzA _) _;refine ⟨?_,hA,?_,h1⟩
 ·exact hw.trans ⟨hA.os,hA.tape,hA.output,hA.size,fun j hj=>hA.block j (by omega)⟩
 ·have:=(Below.refl (W1.heap.size+1) (W1.alloc (.cells pv 29))).alloc (o:= .cells #[.pointer none, .slice none 0 0] 85) (by rw [s1];omega)
  exact this
theorem JW.more (h:JW w d W1 pv acc W) (hb:Below W.heap.size W W'):JW w d W1 pv acc W':=by
 have k: ∀{B:Nat} {u:World},Below B u W->B<=u.heap.size->Below B u W':=fun {B u} g hB=>g.trans ⟨hb.os,hb.tape,hb.output,hb.size,fun j hj=>hb.block j (by have:=g.size;omega)⟩;have s0:=uI w (.cells d 24);have s1:=uI W1 (.cells pv 29);exact ⟨k h.b0 (zzA _),k h.c0 (by omega),k h.c1 (by omega),PO h.bl hb⟩
theorem JW.str (h:JW w d W1 pv acc W) (hw:w.heap.size<=W1.heap.size) (s:ByteArray) (hl:acc.length<=100000000000) (hs:s.size<=100000000):
  Calls Tryz.prog 56 #[.pointer (some ⟨W1.heap.size+1,0,none⟩), .string s] W fun r W'=>r= .returned (.tuple #[.int .i64 s.size, .nilIface])/\JW w d W1 pv (acc++s.data.toList) W':=by
 have s1:=uI W1 (.cells pv 29);refine (Ny (W1.heap.size+1) (W1.heap.size+1) _ s W h.bl (by rw [Lib.byteCells_length];omega) (by have:=h.c1.size;omega)).mono ?_;rintro r W' ⟨rfl,h1,h2,h3⟩;have k: ∀{B:Nat} {u:World},Below B u W->B<=W1.heap.size+1->Below B u W':=fun {B u} g hB=>g.trans ⟨h2.os,h2.tape,h2.output,h2.size,fun j hj=>h2.block j (by omega)⟩
 exact ⟨rfl,k h.b0 (by omega),k h.c0 (by omega),k h.c1 (zzA _),by rw [Lib.byteCells_append];exact .inr h1⟩
theorem JW.string (h:JW w d W1 pv acc W) (hw:w.heap.size<=W1.heap.size):Calls Tryz.prog 59 #[.pointer (some ⟨W1.heap.size+1,0,none⟩)] W fun r W'=>r= .returned (.string ⟨acc.toArray⟩)/\Below w.heap.size w W':=by
 have s1:=uI W1 (.cells pv 29);refine (Tryz.Builder_String_any_k (W1.heap.size+1) (W1.heap.size+1) acc W h.bl (by have:=h.c1.size;omega)).mono ?_;rintro r W' ⟨rfl,_,h2,_⟩;exact ⟨rfl,h.b0.trans ⟨h2.os,h2.tape,h2.output,h2.size,fun j hj=>h2.block j (by omega)⟩⟩
theorem JW.b1 (h:JW w d W1 pv acc W):Below W1.heap.size W1 W:=
 ((Below.refl W1.heap.size W1).alloc (o:= .cells pv 29) (zzA _)).trans ⟨h.c1.os,h.c1.tape,h.c1.output,h.c1.size,fun j hj=>h.c1.block j (by omega)⟩
theorem JW.cd (h:JW w d W1 pv acc W) {i:Nat} {v:Value} (hi:d[i]?=some v):W.cell? ⟨w.heap.size,i,none⟩=some v:=by
 rw [h.c0.cell (by show w.heap.size<_;omega),Lib.cell_of_heap (Ak w _)];exact hi
theorem JW.cp (h:JW w d W1 pv acc W) {i:Nat} {v:Value} (hi:pv[i]?=some v):W.cell? ⟨W1.heap.size,i,none⟩=some v:=by
 rw [h.c1.cell (by show W1.heap.size<_;omega),Lib.cell_of_heap (Ak W1 _)];exact hi
end
theorem Wq (s m:List Int) (L C:Int) (q r:List (Int×Int)) (tx:ByteArray) (hC:Fn Tryz.prog 18 [dgA s m L] (.tup [plA false q,I 0])) (hK:Fn Tryz.prog 55 [dgA s m L] (I C)) (h1:C.tmod 2=1)
  (hT:Fn Tryz.prog 53 [plA false q, .fn 57 []] (plA false r)) (hX:Fn Tryz.prog 22 [plA false r, .str ⟨#[116]⟩] (.str tx)) (vE:tx.size<=100000000):
  Fn Tryz.prog 19 [dgA s m L] (.tup [.str tx,I 0]):=by
 refine ⟨⟨_,Tryz.func19,rfl,by decide⟩,fun w Mx vs gn hl hv=>?_⟩
 match vs,hl with
 |[v0],_=>
  have h0:=hv 0 v0 _ rfl rfl;obtain ⟨a,n,k,b,n',k',rfl⟩:=h0.so;have Cr:Below w.heap.size w (w.alloc (.cells #[.slice a n k, .slice b n' k', .int .i64 L] 24)):=(Below.refl _ w).alloc (zzA _) _;have Zq:(C.tmod 2==1)=true:=by simpa using h1
  show Calls Tryz.prog 19 #[.agg #[.slice a n k, .slice b n' k', .int .i64 L]] w _
  go_enter Tryz.func19,Tryz.ntmps19
  go_wp2_with (go_at_call 18;refine (hC.c1 (gn.on Cr) (h0.on Cr)).mono ?_)
  rintro e W1 ⟨v1,rfl,iy,nX⟩;obtain ⟨vp,ve,rfl,hp,he⟩:=nX.mn
  have:=he.an
  subst this;obtain ⟨pa,pn,pk,rfl⟩:=hp.kT;have hJ:=JW.start (pv:= #[.bool false, .slice pa pn pk]) iy;have hz:w.heap.size<=W1.heap.size:=by have:=iy.size;rw [uI] at this;omega
  have d0:=hJ.cd (i:=0) rfl;have d1:=hJ.cd (i:=1) rfl;have d2:=hJ.cd (i:=2) rfl
  go_wp2_with (go_at_call 55;refine (hK.c1 (gn.on hJ.b0) (h0.on hJ.b0)).mono ?_)
  rintro e W3 ⟨v3,rfl,Ct,K3⟩
  have:=K3.an
  subst this;have uy:=hJ.more Ct;have p0:=uy.cp (i:=0) rfl;have p1:=uy.cp (i:=1) rfl;clear d0 d1 d2
  go_wp2_with (go_at_call 53;refine (hT.c2 (gn.on uy.b0) (hp.on uy.b1) (VR.fn _ [] [] rfl (fun i u x hu=>by simp at hu))).mono ?_)
  rintro e W4 ⟨v4,rfl,Mb,yT⟩;obtain ⟨ra,rn,rk,rfl⟩:=yT.kT;have CE:=uy.more Mb
  go_wp2_with (go_at_call 22;refine (hX.c2 (gn.on CE.b0) yT (.str _)).mono ?_)
  rintro e W5 ⟨v5,rfl,Ma,K1⟩
  have:=K1.bW
  subst this;have Mm:=CE.more Ma
  go_wp2_with (go_at_call 56;refine (Mm.str hz tx (by simp) (by omega)).mono ?_)
  intro r W6 hq
  first|(intro CD;subst hq)|(obtain ⟨hq,CD⟩:=hq;subst hq)
  go_wp2_with (go_at_call 59;refine (CD.string hz).mono ?_)
  rintro r W7 ⟨rfl,L9⟩
  go_wp2
  go_ret2
  refine ⟨_,rfl,L9,VR.o8 ?_ (.int _ _)⟩;exact .str _
theorem Wp (s m:List Int) (L C:Int) (q r:List (Int×Int)) (tx:ByteArray) (hC:Fn Tryz.prog 18 [dgA s m L] (.tup [plA false q,I 0])) (hK:Fn Tryz.prog 55 [dgA s m L] (I C)) (h1:C.tmod 2≠1)
  (hT:Fn Tryz.prog 53 [plA false q, .fn 58 []] (plA false r)) (hX:Fn Tryz.prog 22 [plA false r, .str ⟨#[116]⟩] (.str tx)) (vE:tx.size<=100000000):
  Fn Tryz.prog 19 [dgA s m L] (.tup [.str ⟨(([]:List UInt8)++[40]++tx.data.toList++[41,116,94,40,49,47,50,41]).toArray⟩,I 0]):=by
 refine ⟨⟨_,Tryz.func19,rfl,by decide⟩,fun w Mx vs gn hl hv=>?_⟩
 match vs,hl with
 |[v0],_=>
  have h0:=hv 0 v0 _ rfl rfl;obtain ⟨a,n,k,b,n',k',rfl⟩:=h0.so;have Cr:Below w.heap.size w (w.alloc (.cells #[.slice a n k, .slice b n' k', .int .i64 L] 24)):=(Below.refl _ w).alloc (zzA _) _;have Zq:(C.tmod 2==1)=false:=by simpa using h1
  show Calls Tryz.prog 19 #[.agg #[.slice a n k, .slice b n' k', .int .i64 L]] w _
  go_enter Tryz.func19,Tryz.ntmps19
  go_wp2_with (go_at_call 18;refine (hC.c1 (gn.on Cr) (h0.on Cr)).mono ?_)
  rintro e W1 ⟨v1,rfl,iy,nX⟩;obtain ⟨vp,ve,rfl,hp,he⟩:=nX.mn
  have:=he.an
  subst this;obtain ⟨pa,pn,pk,rfl⟩:=hp.kT;have hJ:=JW.start (pv:= #[.bool false, .slice pa pn pk]) iy;have hz:w.heap.size<=W1.heap.size:=by have:=iy.size;rw [uI] at this;omega
  have d0:=hJ.cd (i:=0) rfl;have d1:=hJ.cd (i:=1) rfl;have d2:=hJ.cd (i:=2) rfl
  go_wp2_with (go_at_call 55;refine (hK.c1 (gn.on hJ.b0) (h0.on hJ.b0)).mono ?_)
  rintro e W3 ⟨v3,rfl,Ct,K3⟩
  have:=K3.an
  subst this;have uy:=hJ.more Ct;have p0:=uy.cp (i:=0) rfl;have p1:=uy.cp (i:=1) rfl;clear d0 d1 d2
  go_wp2_with (go_at_call 56;refine (uy.str hz ⟨#[40]⟩ (by simp) (by show (1:Nat)<=100000000;decide)).mono ?_)
  intro r0 W8 hq
  first|(intro zh;subst hq)|(obtain ⟨hq,zh⟩:=hq;subst hq)
  have p0:=zh.cp (i:=0) rfl;have p1:=zh.cp (i:=1) rfl
  go_wp2_with (go_at_call 53;refine (hT.c2 (gn.on zh.b0) (hp.on zh.b1) (VR.fn _ [] [] rfl (fun i u x hu=>by simp at hu))).mono ?_)
  rintro e W4 ⟨v4,rfl,Mb,yT⟩;obtain ⟨ra,rn,rk,rfl⟩:=yT.kT;have CE:=zh.more Mb
  go_wp2_with (go_at_call 22;refine (hX.c2 (gn.on CE.b0) yT (.str _)).mono ?_)
  rintro e W5 ⟨v5,rfl,Ma,K1⟩
  have:=K1.bW
  subst this;have Mm:=CE.more Ma
  go_wp2_with (go_at_call 56;refine (Mm.str hz tx (by show (1:Nat)<=100000000000;decide) (by omega)).mono ?_)
  intro r W6 hq
  first|(intro CD;subst hq)|(obtain ⟨hq,CD⟩:=hq;subst hq)
  go_wp2_with (go_at_call 56;refine (CD.str hz ⟨#[41,116,94,40,49,47,50,41]⟩ (by have:tx.data.toList.length<=100000000:=vE;rw [zzF];show 1+_<=_;omega) (by show (8:Nat)<=100000000;decide)).mono ?_)
  intro r W9 hq
  first|(intro TD;subst hq)|(obtain ⟨hq,TD⟩:=hq;subst hq)
  go_wp2_with (go_at_call 59;refine (TD.string hz).mono ?_)
  rintro r W7 ⟨rfl,L9⟩
  go_wp2
  go_ret2
  exact ⟨_,rfl,L9,VR.o8 (.str _) (.int _ _)⟩
end Go.Proofs.YtmdjdekgakidhaaGreatDoor
namespace Go.Proofs.YtmdjdekgakidhaaGreatDoor
set_option maxRecDepth 100000
theorem Iy {s m:List Int} {L:Nat} (hv:cX s m L=true) (hs:s.length<=9) (hL:L<=20) {p:List (Int×Int)} (ha:bR p) (N:Nat) (hN:5*s.length+2*L<=N+2) (hp: ∀t∈p,-(N:Int)<=t.1/\t.1<=N)
  (h:((List.range (2*N+1)).all fun i=>decide (cfL p ((i:Int)-N)=cu m s.length L 1 ((i:Int)-N)))=true):kE m s.length L=p:=by
 have hq:=dI hv;have h1:=sL hq (fun _=>true);have h2:=sL hq (fun _=>false)
 have:aV p (cu m s.length L 1):=⟨ha,fun e=>by
  by_cases he: -(N:Int)<=e/\e<=N
  ·have:=List.all_eq_true.1 h (e+N).toNat (List.mem_range.2 (by omega))
   rw [decide_eq_true_iff,show (((e+(N:Int)).toNat:Nat):Int)-N=e by omega] at this;exact this
  ·rw [oX fun t ht=>by have:=hp t ht;omega];by_cases h0:cu m s.length L 1 e=0
   ·exact h0.symm
   ·have:=Aj hq h0
    omega⟩
 exact (this.eq fun e he=>tu hq hs hL (by omega) he).symm
end Go.Proofs.YtmdjdekgakidhaaGreatDoor
