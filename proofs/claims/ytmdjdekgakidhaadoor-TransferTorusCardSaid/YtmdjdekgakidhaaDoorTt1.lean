/- Layer 17: the closures of the braids on two strands: the states of the sweep. -/
import Derived.Test.YtmdjdekgakidhaaDoorSx4
import Derived.Test.YtmdjdekgakidhaaDoorTo1
namespace Go.Proofs.YtmdjdekgakidhaaDoor
set_option maxRecDepth 100000
set_option linter.unusedVariables false
set_option linter.unusedSimpArgs false
def nbT (n i:Nat):Nat:=if i % 4=0 then 4*(if i/4=0 then n-1 else i/4-1)+1 else if i % 4=1 then 4*(if i/4+1=n then 0 else i/4+1) else if i % 4=2 then 4*(if i/4+1=n then 0 else i/4+1)+3 else 4*(if i/4=0 then n-1 else i/4-1)+2
def tuM (n c:Nat):List Int:=(List.range (4*n)).map fun i=>if (i % 4=1\/i % 4=2)/\i/4<c\/(i % 4=0\/i % 4=3)/\(if i/4=0 then n-1 else i/4-1)<c then ((nbT n i:Nat):Int) else 0
def tuX (n:Nat):List Int:=(List.range (4*n)).map fun i=>((nbT n i:Nat):Int)
theorem ysz (n c:Nat):(tuM n c).length=4*n:=by simp [tuM]
theorem y3q (n:Nat):(tuX n).length=4*n:=by simp [tuX]
theorem y6t (n:Nat):tuM n 0=List.replicate (4*n) 0:=by
 apply List.ext_getElem?
 intro i
 by_cases h:i<4*n<;>simp [tuM,h]
theorem y3r (n:Nat):tuM n n=tuX n:=by
 refine List.map_congr_left fun i hi=>?_
 have:=List.mem_range.1 hi
 rw [if_pos]
 split<;>omega
def nxV (n c:Nat):Nat:=if c+1=n then 0 else c+1
theorem yw2 {n c:Nat} (h:c<n):(((c:Int)+1)%(n:Int))=(nxV n c:Nat):=by
 unfold nxV
 split
 ·rename_i e
  rw [show (c:Int)+1=n by omega,Int.emod_self];rfl
 ·rw [Int.emod_eq_of_lt (by omega) (by omega)];rfl
theorem yzu {n c:Nat} (hc:c<n):((((tuM n c).set (4*c+2) (4*(nxV n c:Int)+3)).set (4*nxV n c+3) (4*(c:Int)+2)).set (4*c+1) (4*(nxV n c:Int))).set (4*nxV n c) (4*(c:Int)+1)=tuM n (c+1):=by
 obtain ⟨x,hx,hxc⟩: ∃x,nxV n c=x/\(c+1=n/\x=0\/c+1<n/\x=c+1):=⟨_,rfl,by unfold nxV;split<;>omega⟩
 rw [hx]
 apply List.ext_getElem?
 intro i
 simp only [List.getElem?_set,List.length_set,ysz]
 by_cases hi:i<4*n
 ·simp only [tuM,List.getElem?_map,List.getElem?_range hi,Option.map_some]
  obtain ⟨y,hy,hyc⟩: ∃y,(if i/4=0 then n-1 else i/4-1)=y/\(i/4=0/\y=n-1\/0<i/4/\y=i/4-1):=⟨_,rfl,by split<;>omega⟩
  obtain ⟨z,hz,hzc⟩: ∃z,(if i/4+1=n then 0 else i/4+1)=z/\(i/4+1=n/\z=0\/i/4+1≠n/\z=i/4+1):=⟨_,rfl,by split<;>omega⟩
  unfold nbT
  simp only [hy,hz]
  by_cases h1:4*x=i
  ·rw [if_pos h1,if_pos (by omega),if_pos (by omega),if_pos (by omega)]
   refine congrArg some ?_;omega
  ·rw [if_neg h1]
   by_cases h2:4*c+1=i
   ·rw [if_pos h2,if_pos (by omega),if_pos (by omega),if_neg (by omega),if_pos (by omega)]
    refine congrArg some ?_;omega
   ·rw [if_neg h2]
    by_cases h3:4*x+3=i
    ·rw [if_pos h3,if_pos (by omega),if_pos (by omega),if_neg (by omega),if_neg (by omega),if_neg (by omega)]
     refine congrArg some ?_;omega
    ·rw [if_neg h3]
     by_cases h4:4*c+2=i
     ·rw [if_pos h4,if_pos (by omega),if_pos (by omega),if_neg (by omega),if_neg (by omega),if_pos (by omega)]
      refine congrArg some ?_;omega
     ·rw [if_neg h4]
      have key:((i % 4=1\/i % 4=2)/\i/4<c\/(i % 4=0\/i % 4=3)/\y<c)↔((i % 4=1\/i % 4=2)/\i/4<c+1\/(i % 4=0\/i % 4=3)/\y<c+1):=by omega
      simp only [key]
 ·rw [if_neg fun e=>by omega,if_neg fun e=>by omega,if_neg fun e=>by omega,if_neg fun e=>by omega]
  simp [tuM,hi]
theorem yfp {n i:Nat} (h:i<4*n):(tuX n).getD i 0=((nbT n i:Nat):Int):=by simp [tuX,List.getD_eq_getElem?_getD,h]
theorem ymg {n c:Nat} (h0:0<c) (h:c<n):(tuX n).getD (4*c) 0=4*((c:Int)-1)+1:=by
 rw [yfp (by omega)];unfold nbT;rw [if_pos (by omega),if_neg (by omega)];omega
theorem ymh {n c:Nat} (h0:0<c) (h:c<n):(tuX n).getD (4*c+3) 0=4*((c:Int)-1)+2:=by
 rw [yfp (by omega)];unfold nbT;rw [if_neg (by omega),if_neg (by omega),if_neg (by omega),if_neg (by omega)];omega
theorem yf7 {n:Nat} (h:0<n):(tuX n).getD 0 0=4*((n:Int)-1)+1:=by
 rw [yfp (by omega)];unfold nbT;rw [if_pos (by omega),if_pos (by omega)];omega
theorem yf8 {n:Nat} (h:0<n):(tuX n).getD 3 0=4*((n:Int)-1)+2:=by
 rw [yfp (by omega)];unfold nbT;rw [if_neg (by omega),if_neg (by omega),if_neg (by omega),if_pos (by omega)];omega
theorem yd0 {n c:Nat} (h:c<n):(tuX n).getD (4*c+1) 0=4*(nxV n c:Int):=by
 rw [yfp (by omega)];unfold nbT nxV;rw [if_neg (by omega),if_pos (by omega),show (4*c+1)/4=c by omega];split<;>omega
theorem yd1 {n c:Nat} (h:c<n):(tuX n).getD (4*c+2) 0=4*(nxV n c:Int)+3:=by
 rw [yfp (by omega)];unfold nbT nxV;rw [if_neg (by omega),if_neg (by omega),if_pos (by omega),show (4*c+2)/4=c by omega];split<;>omega
def tuS (c:Nat):List Int:=List.replicate c 1
theorem yb1 (c:Nat):(tuS c).length=c:=by simp [tuS]
theorem yzv (c:Nat):tuS (c+1)=tuS c++[1]:=by simp [tuS,List.replicate_succ']
def tuE (n k:Nat):List Int:=if k=0\/k=n then [] else if k=1 then [0,1,2,3] else [0,3,4*((k:Int)-1)+1,4*((k:Int)-1)+2]
def tuA (n k:Nat):List Nat:=if k=0\/k=n then [] else if k=1 then [1,0,3,2] else [2,3,0,1]
def tuB (n k:Nat):List Nat:=if k=0\/k=n then [0] else if k=1 then [3,2,1,0] else [1,0,3,2]
theorem tuAB (n k:Nat):tuA n k≠tuB n k:=by
 unfold tuA tuB
 split
 ·decide
 ·split<;>decide
def tuGl (P:List (Option Int)) (x:Nat):Int:=(P.getD x none).getD (-1)
def tuCn (P:List (Option Int)):Nat->Nat
 |0=>0
 |k+1=>if (P.getD k none).isSome then tuCn P k else tuCn P k+1
def tuId (P:List (Option Int)) (x:Nat):Int:=if (P.getD x none).isSome then-1 else (tuCn P x:Int)
def tuNx (P:List (Option Int)) (cnt:Nat) (T:List Nat) (b:Bool):List Nat:=
 (txN (arN cnt T b) (fun x=>(rowK (tuGl P) (cnt+4) (cnt+4)).getD x 0) (fun x=>(rowK (tuId P) (cnt+4) (cnt+4)).getD x 0) (cnt+4) (tuCn P (cnt+4)) (cnt+4)).map fun t=>(t-97).toNat
def tuCc (P:List (Option Int)) (cnt:Nat) (T:List Nat) (b:Bool):Nat:=
 (cirN (cnt+4) (arN cnt T b) (fun x=>(rowK (tuGl P) (cnt+4) (cnt+4)).getD x 0) (endN (cnt+4) (arN cnt T b) (fun x=>(rowK (tuGl P) (cnt+4) (cnt+4)).getD x 0) (cnt+4)) (cnt+4)).2
theorem y0v {f g:Nat->Int} {W:Nat} (h: ∀x,x<W->f x=g x):rowK f W W=rowK g W W:=by
 refine List.map_congr_left fun x hx=>?_
 have:=List.mem_range.1 hx
 rw [if_pos this,if_pos this,h x this]
theorem yjs {hs m:List Int} {P:List (Option Int)} {W:Nat} (h: ∀x,x<W->glO hs m x=P.getD x none): ∀k,k<=W->(endS hs m k).length=tuCn P k
 |0,_=>rfl
 |k+1,hk=>by
  simp only [endS,tuCn,h k (by omega)]
  split
  ·exact yjs h k (by omega)
  ·rw [List.length_append,yjs h k (by omega)];rfl
theorem yha {m ends:List Int} {c:Nat} {P:List (Option Int)} (h: ∀x,x<ends.length+4->glO (hvL ends c) m x=P.getD x none):(∀T b,nxT m ends c T b=tuNx P ends.length T b)/\ ∀T b,ccN m ends c T b=tuCc P ends.length T b:=by
 have e1:gluL m ends c=rowK (tuGl P) (ends.length+4) (ends.length+4):=y0v fun x hx=>by unfold glS tuGl;rw [h x hx]
 have e2:idxL m ends c=rowK (tuId P) (ends.length+4) (ends.length+4):=y0v fun x hx=>by unfold idS tuId;rw [h x hx,yjs h x (by omega)]
 have e3:(endL m ends c).length=tuCn P (ends.length+4):=yjs h _ (Nat.le_refl _)
 exact ⟨fun T b=>by unfold nxT tuNx;rw [e1,e2,e3],fun T b=>by unfold ccN tuCc;rw [e1]⟩
def tuEn (hs:List Int) (P:List (Option Int)):Nat->List Int
 |0=>[]
 |k+1=>if (P.getD k none).isSome then tuEn hs P k else tuEn hs P k++[hs.getD k 0]
theorem yf9 {hs m:List Int} {P:List (Option Int)} {W:Nat} (h: ∀x,x<W->glO hs m x=P.getD x none): ∀k,k<=W->endS hs m k=tuEn hs P k
 |0,_=>rfl
 |k+1,hk=>by
  simp only [endS,tuEn,h k (by omega),yf9 h k (by omega)]
theorem y6u {n k:Nat} (h2:2<=k) (hk:k+1<n): ∀x,x<8->glO (hvL (tuE n k) k) (tuX n) x=([none,none,some 4,some 7,some 2,none,none,some 3]:List (Option Int)).getD x none:=by
 have hE:tuE n k=[0,3,4*((k:Int)-1)+1,4*((k:Int)-1)+2]:=by unfold tuE;rw [if_neg (by omega),if_neg (by omega)]
 rw [hE]
 have f0:(tuX n).getD (0:Int).toNat 0=4*((n:Int)-1)+1:=by exact yf7 (by omega)
 have f1:(tuX n).getD (3:Int).toNat 0=4*((n:Int)-1)+2:=by exact yf8 (by omega)
 have f2:(tuX n).getD (4*((k:Int)-1)+1).toNat 0=4*(k:Int):=by rw [show (4*((k:Int)-1)+1).toNat=4*(k-1)+1 by omega,yd0 (by omega)];unfold nxV;split<;>omega
 have f3:(tuX n).getD (4*((k:Int)-1)+2).toNat 0=4*(k:Int)+3:=by rw [show (4*((k:Int)-1)+2).toNat=4*(k-1)+2 by omega,yd1 (by omega)];unfold nxV;split<;>omega
 have f4:(tuX n).getD (4*(k:Int)).toNat 0=4*((k:Int)-1)+1:=by rw [show (4*(k:Int)).toNat=4*k by omega];exact ymg (by omega) (by omega)
 have f5:(tuX n).getD (4*(k:Int)+1).toNat 0=4*((k:Int)+1):=by rw [show (4*(k:Int)+1).toNat=4*k+1 by omega,yd0 (by omega)];unfold nxV;split<;>omega
 have f6:(tuX n).getD (4*(k:Int)+2).toNat 0=4*((k:Int)+1)+3:=by rw [show (4*(k:Int)+2).toNat=4*k+2 by omega,yd1 (by omega)];unfold nxV;split<;>omega
 have f7:(tuX n).getD (4*(k:Int)+3).toNat 0=4*((k:Int)-1)+2:=by rw [show (4*(k:Int)+3).toNat=4*k+3 by omega];exact ymh (by omega) (by omega)
 intro x hx
 have hx8:x=0\/x=1\/x=2\/x=3\/x=4\/x=5\/x=6\/x=7:=by omega
 rcases hx8 with rfl|rfl|rfl|rfl|rfl|rfl|rfl|rfl
 all_goals (
  simp only [glO,hvL,List.cons_append,List.nil_append,List.getD_cons_zero,List.getD_cons_succ,List.length_cons,List.length_nil,Nat.zero_add,Nat.reduceAdd,f0,f1,f2,f3,f4,f5,f6,f7]
  simp only [ndF,List.getD_cons_zero,List.getD_cons_succ]
  repeat (first|rw [if_pos (by omega)]|rw [if_neg (by omega)])
  all_goals rfl)
theorem y6v {n k:Nat} (h2:2<=k) (hk:k+1=n): ∀x,x<8->glO (hvL (tuE n k) k) (tuX n) x=([some 5,some 6,some 4,some 7,some 2,some 0,some 1,some 3]:List (Option Int)).getD x none:=by
 have hE:tuE n k=[0,3,4*((k:Int)-1)+1,4*((k:Int)-1)+2]:=by unfold tuE;rw [if_neg (by omega),if_neg (by omega)]
 rw [hE]
 have f0:(tuX n).getD (0:Int).toNat 0=4*((n:Int)-1)+1:=by exact yf7 (by omega)
 have f1:(tuX n).getD (3:Int).toNat 0=4*((n:Int)-1)+2:=by exact yf8 (by omega)
 have f2:(tuX n).getD (4*((k:Int)-1)+1).toNat 0=4*(k:Int):=by rw [show (4*((k:Int)-1)+1).toNat=4*(k-1)+1 by omega,yd0 (by omega)];unfold nxV;split<;>omega
 have f3:(tuX n).getD (4*((k:Int)-1)+2).toNat 0=4*(k:Int)+3:=by rw [show (4*((k:Int)-1)+2).toNat=4*(k-1)+2 by omega,yd1 (by omega)];unfold nxV;split<;>omega
 have f4:(tuX n).getD (4*(k:Int)).toNat 0=4*((k:Int)-1)+1:=by rw [show (4*(k:Int)).toNat=4*k by omega];exact ymg (by omega) (by omega)
 have f5:(tuX n).getD (4*(k:Int)+1).toNat 0=0:=by rw [show (4*(k:Int)+1).toNat=4*k+1 by omega,yd0 (by omega)];unfold nxV;split<;>omega
 have f6:(tuX n).getD (4*(k:Int)+2).toNat 0=3:=by rw [show (4*(k:Int)+2).toNat=4*k+2 by omega,yd1 (by omega)];unfold nxV;split<;>omega
 have f7:(tuX n).getD (4*(k:Int)+3).toNat 0=4*((k:Int)-1)+2:=by rw [show (4*(k:Int)+3).toNat=4*k+3 by omega];exact ymh (by omega) (by omega)
 intro x hx
 have hx8:x=0\/x=1\/x=2\/x=3\/x=4\/x=5\/x=6\/x=7:=by omega
 rcases hx8 with rfl|rfl|rfl|rfl|rfl|rfl|rfl|rfl
 all_goals (
  simp only [glO,hvL,List.cons_append,List.nil_append,List.getD_cons_zero,List.getD_cons_succ,List.length_cons,List.length_nil,Nat.zero_add,Nat.reduceAdd,f0,f1,f2,f3,f4,f5,f6,f7]
  simp only [ndF,List.getD_cons_zero,List.getD_cons_succ]
  repeat (first|rw [if_pos (by omega)]|rw [if_neg (by omega)])
  all_goals rfl)
theorem y6w {n k:Nat} (h2:k=1) (hk:k+1<n): ∀x,x<8->glO (hvL (tuE n k) k) (tuX n) x=([none,some 4,some 7,none,some 1,none,none,some 2]:List (Option Int)).getD x none:=by
 have hE:tuE n k=[0,1,2,3]:=by unfold tuE;rw [if_neg (by omega),if_pos h2]
 rw [hE]
 have f0:(tuX n).getD (0:Int).toNat 0=4*((n:Int)-1)+1:=by exact yf7 (by omega)
 have f1:(tuX n).getD (3:Int).toNat 0=4*((n:Int)-1)+2:=by exact yf8 (by omega)
 have f2:(tuX n).getD (1:Int).toNat 0=4*(k:Int):=by refine (yd0 (c:=0) (by omega)).trans ?_;unfold nxV;split<;>omega
 have f3:(tuX n).getD (2:Int).toNat 0=4*(k:Int)+3:=by refine (yd1 (c:=0) (by omega)).trans ?_;unfold nxV;split<;>omega
 have f4:(tuX n).getD (4*(k:Int)).toNat 0=4*((k:Int)-1)+1:=by rw [show (4*(k:Int)).toNat=4*k by omega];exact ymg (by omega) (by omega)
 have f5:(tuX n).getD (4*(k:Int)+1).toNat 0=4*((k:Int)+1):=by rw [show (4*(k:Int)+1).toNat=4*k+1 by omega,yd0 (by omega)];unfold nxV;split<;>omega
 have f6:(tuX n).getD (4*(k:Int)+2).toNat 0=4*((k:Int)+1)+3:=by rw [show (4*(k:Int)+2).toNat=4*k+2 by omega,yd1 (by omega)];unfold nxV;split<;>omega
 have f7:(tuX n).getD (4*(k:Int)+3).toNat 0=4*((k:Int)-1)+2:=by rw [show (4*(k:Int)+3).toNat=4*k+3 by omega];exact ymh (by omega) (by omega)
 intro x hx
 have hx8:x=0\/x=1\/x=2\/x=3\/x=4\/x=5\/x=6\/x=7:=by omega
 rcases hx8 with rfl|rfl|rfl|rfl|rfl|rfl|rfl|rfl
 all_goals (
  simp only [glO,hvL,List.cons_append,List.nil_append,List.getD_cons_zero,List.getD_cons_succ,List.length_cons,List.length_nil,Nat.zero_add,Nat.reduceAdd,f0,f1,f2,f3,f4,f5,f6,f7]
  simp only [ndF,List.getD_cons_zero,List.getD_cons_succ]
  repeat (first|rw [if_pos (by omega)]|rw [if_neg (by omega)])
  all_goals rfl)
theorem y6x {n k:Nat} (h2:k=1) (hk:k+1=n): ∀x,x<8->glO (hvL (tuE n k) k) (tuX n) x=([some 5,some 4,some 7,some 6,some 1,some 0,some 3,some 2]:List (Option Int)).getD x none:=by
 have hE:tuE n k=[0,1,2,3]:=by unfold tuE;rw [if_neg (by omega),if_pos h2]
 rw [hE]
 have f0:(tuX n).getD (0:Int).toNat 0=4*((n:Int)-1)+1:=by exact yf7 (by omega)
 have f1:(tuX n).getD (3:Int).toNat 0=4*((n:Int)-1)+2:=by exact yf8 (by omega)
 have f2:(tuX n).getD (1:Int).toNat 0=4*(k:Int):=by refine (yd0 (c:=0) (by omega)).trans ?_;unfold nxV;split<;>omega
 have f3:(tuX n).getD (2:Int).toNat 0=4*(k:Int)+3:=by refine (yd1 (c:=0) (by omega)).trans ?_;unfold nxV;split<;>omega
 have f4:(tuX n).getD (4*(k:Int)).toNat 0=4*((k:Int)-1)+1:=by rw [show (4*(k:Int)).toNat=4*k by omega];exact ymg (by omega) (by omega)
 have f5:(tuX n).getD (4*(k:Int)+1).toNat 0=0:=by rw [show (4*(k:Int)+1).toNat=4*k+1 by omega,yd0 (by omega)];unfold nxV;split<;>omega
 have f6:(tuX n).getD (4*(k:Int)+2).toNat 0=3:=by rw [show (4*(k:Int)+2).toNat=4*k+2 by omega,yd1 (by omega)];unfold nxV;split<;>omega
 have f7:(tuX n).getD (4*(k:Int)+3).toNat 0=4*((k:Int)-1)+2:=by rw [show (4*(k:Int)+3).toNat=4*k+3 by omega];exact ymh (by omega) (by omega)
 intro x hx
 have hx8:x=0\/x=1\/x=2\/x=3\/x=4\/x=5\/x=6\/x=7:=by omega
 rcases hx8 with rfl|rfl|rfl|rfl|rfl|rfl|rfl|rfl
 all_goals (
  simp only [glO,hvL,List.cons_append,List.nil_append,List.getD_cons_zero,List.getD_cons_succ,List.length_cons,List.length_nil,Nat.zero_add,Nat.reduceAdd,f0,f1,f2,f3,f4,f5,f6,f7]
  simp only [ndF,List.getD_cons_zero,List.getD_cons_succ]
  repeat (first|rw [if_pos (by omega)]|rw [if_neg (by omega)])
  all_goals rfl)
theorem y6y {n k:Nat} (h2:k=0) (hk:k+1<n): ∀x,x<4->glO (hvL (tuE n k) k) (tuX n) x=([none,none,none,none]:List (Option Int)).getD x none:=by
 have hE:tuE n k=[]:=by unfold tuE;rw [if_pos (.inl h2)]
 rw [hE]
 have f0:(tuX n).getD (4*(k:Int)).toNat 0=4*((n:Int)-1)+1:=by subst h2;exact yf7 (by omega)
 have f1:(tuX n).getD (4*(k:Int)+1).toNat 0=4*((k:Int)+1):=by rw [show (4*(k:Int)+1).toNat=4*k+1 by omega,yd0 (by omega)];unfold nxV;split<;>omega
 have f2:(tuX n).getD (4*(k:Int)+2).toNat 0=4*((k:Int)+1)+3:=by rw [show (4*(k:Int)+2).toNat=4*k+2 by omega,yd1 (by omega)];unfold nxV;split<;>omega
 have f3:(tuX n).getD (4*(k:Int)+3).toNat 0=4*((n:Int)-1)+2:=by subst h2;exact yf8 (by omega)
 intro x hx
 have hx8:x=0\/x=1\/x=2\/x=3:=by omega
 rcases hx8 with rfl|rfl|rfl|rfl
 all_goals (
  simp only [glO,hvL,List.cons_append,List.nil_append,List.getD_cons_zero,List.getD_cons_succ,List.length_cons,List.length_nil,Nat.zero_add,Nat.reduceAdd,f0,f1,f2,f3]
  simp only [ndF,List.getD_cons_zero,List.getD_cons_succ]
  repeat (first|rw [if_pos (by omega)]|rw [if_neg (by omega)])
  all_goals rfl)
theorem y6z {n k:Nat} (h2:k=0) (hk:k+1=n): ∀x,x<4->glO (hvL (tuE n k) k) (tuX n) x=([some 1,some 0,some 3,some 2]:List (Option Int)).getD x none:=by
 have hE:tuE n k=[]:=by unfold tuE;rw [if_pos (.inl h2)]
 rw [hE]
 have f0:(tuX n).getD (4*(k:Int)).toNat 0=4*((n:Int)-1)+1:=by subst h2;exact yf7 (by omega)
 have f1:(tuX n).getD (4*(k:Int)+1).toNat 0=0:=by rw [show (4*(k:Int)+1).toNat=4*k+1 by omega,yd0 (by omega)];unfold nxV;split<;>omega
 have f2:(tuX n).getD (4*(k:Int)+2).toNat 0=3:=by rw [show (4*(k:Int)+2).toNat=4*k+2 by omega,yd1 (by omega)];unfold nxV;split<;>omega
 have f3:(tuX n).getD (4*(k:Int)+3).toNat 0=4*((n:Int)-1)+2:=by subst h2;exact yf8 (by omega)
 intro x hx
 have hx8:x=0\/x=1\/x=2\/x=3:=by omega
 rcases hx8 with rfl|rfl|rfl|rfl
 all_goals (
  simp only [glO,hvL,List.cons_append,List.nil_append,List.getD_cons_zero,List.getD_cons_succ,List.length_cons,List.length_nil,Nat.zero_add,Nat.reduceAdd,f0,f1,f2,f3]
  simp only [ndF,List.getD_cons_zero,List.getD_cons_succ]
  repeat (first|rw [if_pos (by omega)]|rw [if_neg (by omega)])
  all_goals rfl)
theorem yjt {n k:Nat} (hk:k<n):endL (tuX n) (tuE n k) k=tuE n (k+1)/\
  nxT (tuX n) (tuE n k) k (tuA n k) false=tuA n (k+1)/\nxT (tuX n) (tuE n k) k (tuA n k) true=(if k+1=n then [] else tuB n (k+1))/\
  ccN (tuX n) (tuE n k) k (tuA n k) false=(if k+1=n then 2 else 0)/\ccN (tuX n) (tuE n k) k (tuA n k) true=(if k+1=n then 1 else 0)/\
  (k=0\/(nxT (tuX n) (tuE n k) k (tuB n k) false=(if k+1=n then [] else tuB n (k+1))/\nxT (tuX n) (tuE n k) k (tuB n k) true=(if k+1=n then [] else tuB n (k+1))/\
  ccN (tuX n) (tuE n k) k (tuB n k) false=(if k+1=n then 1 else 0)/\ccN (tuX n) (tuE n k) k (tuB n k) true=(if k+1=n then 2 else 1))):=by
 by_cases hl:k+1=n
 ·rcases (show k=0\/k=1\/2<=k by omega) with h2|h2|h2
  ·have hE:tuE n k=[]:=by unfold tuE;rw [if_pos (.inl h2)]
   have hA:tuA n k=[]:=by unfold tuA;rw [if_pos (.inl h2)]
   have hA1:tuA n (k+1)=[]:=by unfold tuA;rw [if_pos (.inr hl)]
   have hE1:tuE n (k+1)=[]:=by unfold tuE;rw [if_pos (.inr hl)]
   have hp:=y6z (n:=n) h2 hl
   have he:=yf9 hp 4 (Nat.le_refl _)
   rw [hE] at hp he⊢
   obtain ⟨h3,h4⟩:=yha (ends:=[]) (c:=k) hp
   rw [hA,hA1,hE1]
   simp only [h3,h4,if_pos hl,List.length_cons,List.length_nil,Nat.zero_add,Nat.reduceAdd]
   refine ⟨he.trans ?_,by decide,by decide,by decide,by decide, .inl h2⟩
   rfl
  ·have hE:tuE n k=[0,1,2,3]:=by unfold tuE;rw [if_neg (by omega),if_pos h2]
   have hA:tuA n k=[1,0,3,2]:=by unfold tuA;rw [if_neg (by omega),if_pos h2]
   have hB:tuB n k=[3,2,1,0]:=by unfold tuB;rw [if_neg (by omega),if_pos h2]
   have hA1:tuA n (k+1)=[]:=by unfold tuA;rw [if_pos (.inr hl)]
   have hE1:tuE n (k+1)=[]:=by unfold tuE;rw [if_pos (.inr hl)]
   have hp:=y6x (n:=n) h2 hl
   have he:=yf9 hp 8 (Nat.le_refl _)
   rw [hE] at hp he⊢
   obtain ⟨h3,h4⟩:=yha (ends:=[0,1,2,3]) (c:=k) hp
   rw [hA,hA1,hE1,hB]
   simp only [h3,h4,if_pos hl,List.length_cons,List.length_nil,Nat.zero_add,Nat.reduceAdd]
   refine ⟨he.trans ?_,by decide,by decide,by decide,by decide, .inr ⟨by decide,by decide,by decide,by decide⟩⟩
   rfl
  ·have hE:tuE n k=[0,3,4*((k:Int)-1)+1,4*((k:Int)-1)+2]:=by unfold tuE;rw [if_neg (by omega),if_neg (by omega)]
   have hA:tuA n k=[2,3,0,1]:=by unfold tuA;rw [if_neg (by omega),if_neg (by omega)]
   have hB:tuB n k=[1,0,3,2]:=by unfold tuB;rw [if_neg (by omega),if_neg (by omega)]
   have hA1:tuA n (k+1)=[]:=by unfold tuA;rw [if_pos (.inr hl)]
   have hE1:tuE n (k+1)=[]:=by unfold tuE;rw [if_pos (.inr hl)]
   have hp:=y6v (n:=n) h2 hl
   have he:=yf9 hp 8 (Nat.le_refl _)
   rw [hE] at hp he⊢
   obtain ⟨h3,h4⟩:=yha (ends:=[0,3,4*((k:Int)-1)+1,4*((k:Int)-1)+2]) (c:=k) hp
   rw [hA,hA1,hE1,hB]
   simp only [h3,h4,if_pos hl,List.length_cons,List.length_nil,Nat.zero_add,Nat.reduceAdd]
   refine ⟨he.trans ?_,by decide,by decide,by decide,by decide, .inr ⟨by decide,by decide,by decide,by decide⟩⟩
   rfl
 ·rcases (show k=0\/k=1\/2<=k by omega) with h2|h2|h2
  ·have hE:tuE n k=[]:=by unfold tuE;rw [if_pos (.inl h2)]
   have hA:tuA n k=[]:=by unfold tuA;rw [if_pos (.inl h2)]
   have hA1:tuA n (k+1)=[1,0,3,2]:=by unfold tuA;rw [if_neg (by omega),if_pos (by omega)]
   have hB1:tuB n (k+1)=[3,2,1,0]:=by unfold tuB;rw [if_neg (by omega),if_pos (by omega)]
   have hE1:tuE n (k+1)=[0,1,2,3]:=by unfold tuE;rw [if_neg (by omega),if_pos (by omega)]
   have hp:=y6y (n:=n) h2 (by omega)
   have he:=yf9 hp 4 (Nat.le_refl _)
   rw [hE] at hp he⊢
   obtain ⟨h3,h4⟩:=yha (ends:=[]) (c:=k) hp
   rw [hA,hA1,hE1,hB1]
   simp only [h3,h4,if_neg hl,List.length_cons,List.length_nil,Nat.zero_add,Nat.reduceAdd]
   refine ⟨he.trans ?_,by decide,by decide,by decide,by decide, .inl h2⟩
   show ([4*(k:Int),4*(k:Int)+1,4*(k:Int)+2,4*(k:Int)+3]:List Int)=[0,1,2,3]
   subst h2;rfl
  ·have hE:tuE n k=[0,1,2,3]:=by unfold tuE;rw [if_neg (by omega),if_pos h2]
   have hA:tuA n k=[1,0,3,2]:=by unfold tuA;rw [if_neg (by omega),if_pos h2]
   have hB:tuB n k=[3,2,1,0]:=by unfold tuB;rw [if_neg (by omega),if_pos h2]
   have hA1:tuA n (k+1)=[2,3,0,1]:=by unfold tuA;rw [if_neg (by omega),if_neg (by omega)]
   have hB1:tuB n (k+1)=[1,0,3,2]:=by unfold tuB;rw [if_neg (by omega),if_neg (by omega)]
   have hE1:tuE n (k+1)=[0,3,4*(((k+1:Nat):Int)-1)+1,4*(((k+1:Nat):Int)-1)+2]:=by unfold tuE;rw [if_neg (by omega),if_neg (by omega)]
   have hp:=y6w (n:=n) h2 (by omega)
   have he:=yf9 hp 8 (Nat.le_refl _)
   rw [hE] at hp he⊢
   obtain ⟨h3,h4⟩:=yha (ends:=[0,1,2,3]) (c:=k) hp
   rw [hA,hA1,hE1,hB,hB1]
   simp only [h3,h4,if_neg hl,List.length_cons,List.length_nil,Nat.zero_add,Nat.reduceAdd]
   refine ⟨he.trans ?_,by decide,by decide,by decide,by decide, .inr ⟨by decide,by decide,by decide,by decide⟩⟩
   show ([0,3,4*(k:Int)+1,4*(k:Int)+2]:List Int)=_
   rw [show ((k+1:Nat):Int)-1=k by omega]
  ·have hE:tuE n k=[0,3,4*((k:Int)-1)+1,4*((k:Int)-1)+2]:=by unfold tuE;rw [if_neg (by omega),if_neg (by omega)]
   have hA:tuA n k=[2,3,0,1]:=by unfold tuA;rw [if_neg (by omega),if_neg (by omega)]
   have hB:tuB n k=[1,0,3,2]:=by unfold tuB;rw [if_neg (by omega),if_neg (by omega)]
   have hA1:tuA n (k+1)=[2,3,0,1]:=by unfold tuA;rw [if_neg (by omega),if_neg (by omega)]
   have hB1:tuB n (k+1)=[1,0,3,2]:=by unfold tuB;rw [if_neg (by omega),if_neg (by omega)]
   have hE1:tuE n (k+1)=[0,3,4*(((k+1:Nat):Int)-1)+1,4*(((k+1:Nat):Int)-1)+2]:=by unfold tuE;rw [if_neg (by omega),if_neg (by omega)]
   have hp:=y6u (n:=n) h2 (by omega)
   have he:=yf9 hp 8 (Nat.le_refl _)
   rw [hE] at hp he⊢
   obtain ⟨h3,h4⟩:=yha (ends:=[0,3,4*((k:Int)-1)+1,4*((k:Int)-1)+2]) (c:=k) hp
   rw [hA,hA1,hE1,hB,hB1]
   simp only [h3,h4,if_neg hl,List.length_cons,List.length_nil,Nat.zero_add,Nat.reduceAdd]
   refine ⟨he.trans ?_,by decide,by decide,by decide,by decide, .inr ⟨by decide,by decide,by decide,by decide⟩⟩
   show ([0,3,4*(k:Int)+1,4*(k:Int)+2]:List Int)=_
   rw [show ((k+1:Nat):Int)-1=k by omega]
def tuF:Nat->Int->Int
 |0=>fun _=>0
 |k+1=>fun x=> -(tuF k (x+3))+if x=(k:Int)-1 then 1 else 0
def sgN (i:Int):Int:=if i % 2=0 then 1 else-1
theorem ymi: ∀(k:Nat) (x:Int),tuF k x=if ((k:Int)-2-x)% 4=0/\0<=(k:Int)-2-x/\(k:Int)-2-x<4*(k:Int) then sgN (((k:Int)-2-x)/4) else 0
 |0,x=>by
  rw [if_neg (by omega)];rfl
 |k+1,x=>by
  simp only [tuF,ymi k]
  rw [show ((k+1:Nat):Int)=(k:Int)+1 by omega]
  obtain ⟨y,hy⟩: ∃y,(k:Int)-1-x=y:=⟨_,rfl⟩
  rw [show (k:Int)-2-(x+3)=y-4 by omega,show (k:Int)+1-2-x=y by omega]
  by_cases h0:y=0
  ·subst h0
   rw [if_neg (by omega),if_pos (by omega),if_pos (by omega)];rfl
  ·rw [if_neg (c:=x=(k:Int)-1) (by omega)]
   by_cases h1:y % 4=0/\0<=y/\y<4*((k:Int)+1)
   ·rw [if_pos h1,if_pos (by omega)]
    unfold sgN
    rw [show (y-4)/4=y/4-1 by omega]
    split<;>split<;>omega
   ·rw [if_neg h1,if_neg (by omega)];rfl
theorem yw3 (i:Int):sgN i≠0/\ -1<=sgN i/\sgN i<=1:=by unfold sgN;split<;>decide
theorem yfq (k:Nat) (x:Int): -1<=tuF k x/\tuF k x<=1:=by
 rw [ymi]
 split
 ·exact (yw3 _).2
 ·decide
theorem ys0 {k:Nat} {x:Int} (h:tuF k x≠0):(k:Int)-2-4*k<x/\x<=(k:Int)-2:=by
 rw [ymi] at h
 split at h
 ·omega
 ·exact absurd rfl h
def tuR (n:Nat) (x:Int):Int:=tuF n x-(if x=(n:Int)+2 then 1 else 0)-(if x=(n:Int)-2 then 1 else 0)
theorem yju (n:Nat) (x:Int): -3<=tuR n x/\tuR n x<=1:=by
 have:=yfq n x
 unfold tuR
 split<;>split<;>omega
theorem ynb {n:Nat} {x:Int} (h:tuR n x≠0): -(3*(n:Int))-2<=x/\x<=(n:Int)+2:=by
 unfold tuR at h
 by_cases h0:tuF n x=0
 ·rw [h0] at h
  by_cases h1:x=(n:Int)+2
  ·omega
  ·by_cases h2:x=(n:Int)-2
   ·omega
   ·rw [if_neg h1,if_neg h2] at h;exact absurd rfl h
 ·have:=ys0 h0;omega
def tuV (n k:Nat) (e:Int):Int:=if k=n then tuR n e else if e=(k:Int) then 1 else 0
def tuW (n k:Nat) (e:Int):Int:=if k=n then 0 else tuF k e
theorem y3s (n k:Nat) (e:Int):(tuV n k e).natAbs<=3/\(tuW n k e).natAbs<=3:=by
 have h1:=yju n e
 have h2:=yfq k e
 unfold tuV tuW
 constructor
 ·split
  ·omega
  ·split<;>decide
 ·split
  ·decide
  ·omega
def vkS (T:List Nat) (e:Int) (g:PE):Int:=if dK g.key=T then pfE g.lo g.cs e else 0
theorem ys1 (T:List Nat) (e:Int) {G:List PE} {par:Int} (h: ∀g∈G,(g.lo-par)% 2=0) {s:ByteArray} {lo:Int} {cs:List Int} (hp:(lo-par)% 2=0):sumG (vkS T e) (updE G s lo cs)=sumG (vkS T e) G+vkS T e ⟨s,lo,cs⟩:=by
 refine yk5 G fun g hg hk=>?_
 have h1:=h g hg
 unfold vkS
 dsimp only
 rw [show (plS g lo cs).key=g.key from rfl,←hk]
 split
 ·exact ywp (by omega) e
 ·rfl
theorem ys3 {Φ:List Nat->(Int->Int)->Int} (hadd: ∀T f g,Φ T (fun x=>f x+g x)=Φ T f+Φ T g) (h0: ∀T,Φ T (fun _=>0)=0) {A B:List Nat} (hAB:A≠B): ∀sd:List PE,(∀g∈sd,dK g.key=A\/dK g.key=B)->
  sumG (fun g=>Φ (dK g.key) (pfE g.lo g.cs)) sd=Φ A (fun x=>sumG (vkS A x) sd)+Φ B (fun x=>sumG (vkS B x) sd)
 |[],_=>by simp only [sumG,h0];rfl
 |g::sd,h=>by
  have ih:=ys3 hadd h0 hAB sd fun g' hg'=>h g' (List.mem_cons_of_mem _ hg')
  simp only [sumG,hadd,ih]
  rcases h g (List.mem_cons_self ..) with e|e
  ·rw [show (fun x=>vkS A x g)=pfE g.lo g.cs from funext fun x=>by unfold vkS;rw [if_pos e],show (fun x=>vkS B x g)=fun _=>0 from funext fun x=>by unfold vkS;rw [if_neg (by rw [e];exact hAB)],h0,e]
   omega
  ·rw [show (fun x=>vkS B x g)=pfE g.lo g.cs from funext fun x=>by unfold vkS;rw [if_pos e],show (fun x=>vkS A x g)=fun _=>0 from funext fun x=>by unfold vkS;rw [if_neg (by rw [e];exact hAB.symm)],h0,e]
   omega
theorem ync: ∀{sd:List PE} {g:PE},ybd sd->(∀x∈sd,x.key=pS (dK x.key))->g∈sd-> ∀e,sumG (vkS (dK g.key) e) sd=pfE g.lo g.cs e
 |[],g,_,_,h,_=>by cases h
 |a::sd,g,hn,hk,h,e=>by
  unfold ybd at hn
  rw [List.map_cons,List.nodup_cons] at hn
  have hz: ∀(l:List PE) (T:List Nat),(∀x∈l,dK x.key≠T)->sumG (vkS T e) l=0:=by
   intro l T
   induction l with
   |nil=>intro _;rfl
   |cons b l ih=>
    intro h
    simp only [sumG]
    rw [ih fun x hx=>h x (List.mem_cons_of_mem _ hx)]
    unfold vkS
    rw [if_neg (h b (List.mem_cons_self ..))];rfl
  simp only [sumG]
  rcases List.mem_cons.1 h with rfl|h
  ·rw [hz sd _ fun x hx ex=>hn.1 (List.mem_map.2 ⟨x,hx,by rw [hk x (List.mem_cons_of_mem _ hx),hk g (List.mem_cons_self ..),ex]⟩)]
   unfold vkS
   rw [if_pos rfl];omega
  ·rw [ync (sd:=sd) hn.2 (fun x hx=>hk x (List.mem_cons_of_mem _ hx)) h e]
   unfold vkS
   rw [if_neg fun ex=>hn.1 (List.mem_map.2 ⟨g,h,by rw [hk a (List.mem_cons_self ..),hk g (List.mem_cons_of_mem _ h),ex]⟩)]
   omega
def cbS (m:List Int) (c sp:Nat) (ends:List Int) (T:List Nat) (e:Int) (t:List Nat) (f:Int->Int):Int:=
 (if nxT m ends c t false=T then dmn (ccN m ends c t false-sp) (fun x=>f (x-1)) e else 0)+(if nxT m ends c t true=T then dmn (ccN m ends c t true-sp) (fun x=>f (x- -1)) e else 0)
theorem y3t (m:List Int) (c sp:Nat) (ends:List Int) (T:List Nat) (e:Int) (t:List Nat) (f g:Int->Int):cbS m c sp ends T e t (fun x=>f x+g x)=cbS m c sp ends T e t f+cbS m c sp ends T e t g:=by
 unfold cbS
 rw [yfn (fun x=>f (x-1)) (fun x=>g (x-1)),yfn (fun x=>f (x- -1)) (fun x=>g (x- -1))]
 split<;>split<;>omega
theorem yga (m:List Int) (c sp:Nat) (ends:List Int) (T:List Nat) (e:Int) (t:List Nat):cbS m c sp ends T e t (fun _=>0)=0:=by
 unfold cbS
 rw [yh6,yh6]
 split<;>split<;>rfl
section
variable {m:List Int} {n:Nat} {P:List Nat} {ends:List Int} {c:Nat} (hp:PmOk m n) (he:yda m n P ends) (hc:c<n) (hcP:c∉P) (hw:ends.length<=90) (hw2:(endL m ends c).length<=90)
include hp he hc hcP hw hw2
theorem y5k {g:PE} {par R:Int} (hk:ybp (dK g.key) ends.length) (hpr:(g.lo-par)% 2=0) {G:List PE} (sp:Nat) (hrg: -R<=g.lo/\g.lo+2*(g.cs.length:Int)<=R) (h0:0<g.cs.length) (h:GOk (endL m ends c).length (par+1) (R+200) G) (T:List Nat) (e:Int):
  sumG (vkS T e) (exG m c sp ends G g)=sumG (vkS T e) G+cbS m c sp ends T e (dK g.key) (pfE g.lo g.cs):=by
 have q:=fun b=>(yb2 hp he hk hc hcP (fun _=>b)).1
 have l:=yg3 m ends c (dK g.key)
 have l0:=l false
 have l1:=l true
 have h1:=h.upd (T:=nxT m ends c (dK g.key) false) (lo:=g.lo+1-2*((ccN m ends c (dK g.key) false-sp:Nat):Int)) (cs:=tsL (ccN m ends c (dK g.key) false-sp) g.cs) (by omega) (q false) (by omega) (by rw [ybg];omega) (by rw [ybg];omega)
 unfold exG
 rw [ys1 T e h1.pr (by omega),ys1 T e h.pr (by omega),Int.add_assoc]
 congr 1
 unfold vkS cbS
 dsimp only
 rw [yeo ((q false).lt (by omega)),yeo ((q true).lt (by omega))]
 rw [show g.lo-1=g.lo+ -1 by omega]
 rw [yiw (g.lo+1) g.cs,yiw (g.lo+ -1) g.cs]
 rw [ybe (ygk g.lo g.cs 1),ybe (ygk g.lo g.cs (-1))]
end
theorem y3u (m:List Int) (c sp:Nat) (ends:List Int) (G:List PE) (g:PE) {x:PE} (hx:x∈exG m c sp ends G g):(x.key=pS (nxT m ends c (dK g.key) false)\/x.key=pS (nxT m ends c (dK g.key) true)\/ ∃y∈G,y.key=x.key):=by
 unfold exG at hx
 rcases yeh _ hx with h|rfl|⟨y,hy,hk,rfl⟩
 ·rcases yeh _ h with h|rfl|⟨y,hy,hk,rfl⟩
  ·exact .inr (.inr ⟨x,h,rfl⟩)
  ·exact .inl rfl
  ·exact .inl hk
 ·exact .inr (.inl rfl)
 ·exact .inr (.inl hk)
theorem ys4 {G:List PE} {s:ByteArray} {lo:Int} {cs:List Int} {B:Nat} (h: ∀g∈G,mxN g.cs<=B): ∀x∈updE G s lo cs,mxN x.cs<=B+mxN cs:=fun x hx=>by
 rcases yeh _ hx with hx|rfl|⟨g,hg,hk,rfl⟩
 ·have:=h x hx;omega
 ·dsimp only;omega
 ·have h1:=h g hg
  have h2:=yqp g lo cs
  omega
theorem y5l (m:List Int) (c sp:Nat) (ends:List Int) {G:List PE} {g:PE} {B b:Nat} (h: ∀x∈G,mxN x.cs<=B) (hg:mxN g.cs<=3) (hb: ∀t,ccN m ends c (dK g.key) t<=8): ∀x∈exG m c sp ends G g,mxN x.cs<=B+1536:=by
 have key: ∀t,mxN (tsL (ccN m ends c (dK g.key) t-sp) g.cs)<=768:=fun t=>by
  have h1:=ye1 g.cs (ccN m ends c (dK g.key) t-sp)
  have h2:2^(ccN m ends c (dK g.key) t-sp)<=2^8:=Nat.pow_le_pow_right (by omega) (by have:=hb t;omega)
  have h3:=Nat.mul_le_mul h2 hg
  omega
 have k0:=key false
 have k1:=key true
 unfold exG
 intro x hx
 have:=ys4 (ys4 h) x hx
 omega
end Go.Proofs.YtmdjdekgakidhaaDoor
