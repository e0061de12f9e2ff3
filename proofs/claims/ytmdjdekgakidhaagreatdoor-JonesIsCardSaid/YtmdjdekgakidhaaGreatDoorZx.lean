/- The reference of layer 1: strands, equal lists. -/
import Derived.Test.YtmdjdekgakidhaaGreatDoorZh
import Derived.Test.YtmdjdekgakidhaaGreatDoorZa
import Derived.Test.YtmdjdekgakidhaaGreatDoorZj
set_option linter.unusedSimpArgs false
set_option linter.unusedVariables false
namespace Go.Proofs.YtmdjdekgakidhaaGreatDoor
open Go Go.RowKit
set_option maxRecDepth 100000
set_option maxHeartbeats 8000000
def pY:List (List Nat):=[[38,39,40,41,42],[38,39,40,41,42],[36,37,39,8],[36,37,38,8],[36,37,8],[36,37,8],[36,37,8],[38,39,40,41,42],[]]
def pX:List (List Nat):=[[44,47,48,49,50],[43,47,48,49,50],[47,48,49,50],[47,48,49,50],[43,44,45,46,48],[43,44,45,46,47],[43,44,45,46],[43,44,45,46],[],[]]
theorem Gw (m l:List Int): ∀h,(lP m l h).length=l.length
 |0=>rfl
 |h+1=>by simp only [lP,qn,zzL];exact Gw m l h
theorem Gv (m:List Int) (n:Nat): ∀k,(bB m n k).length=n
 |0=>by simp [bB]
 |k+1=>by simp only [bB];rw [Gw,Gv m n k]
theorem Xg (m:List Int) (n:Nat) (hn:n<=1000) (hm:iN m n):Fn Tryz.prog 61 [roI m] (roI (bB m n n)):=by
 obtain ⟨fv,l5⟩:=hm;have e0:(m.length:Int).tdiv 4=n:=by rw [sG (by omega)];omega
 refine Fn.intro [.tmp 2] Tryz.func61 rfl rfl (by decide) (by simp [Tryz.ntmps61]) ?_;rw [Tryz.ntmps61]
 repeat' (first|omega|(first|apply ag|(refine aj.intro (id:=13) pY [[],[],[0,1],[0,1,2],[0,1],[0,1],[0,1],[2,3,4,5,6],[]] (by decide+kernel) mixed ?_)|(refine aj.intro (id:=14) pX [[],[0],[],[],[0,1,2,3],[0,1,2,3,4],[0,1,2,3],[0,1,2,3],[],[]] (by decide+kernel) mixed ?_)|skip);simp only [go_sem,sevalprocAttr,e0,↓reduceIte,reduceCtorEq,pY,pX]|apply ae<;>(intro h_;(try simp only [h_]);revert h_)|apply And.intro|with_reducible intro h_|trivial|simp only [go_sem,ah];omega)
 refine aR.intro (fun t fr H=> ∃k:Nat,k<=n/\t=n-k/\fr=[(5,I k),(4, .sl 1 0 0 n),(3,I n),(0,roI m)]/\H=[(0, .cells 3 (.ints ((List.range k).map (fun (i:Nat)=>(i:Int))++List.replicate (n-k) 0)))]) ?_ ?_
 ·refine ⟨_,_,_,?_,0,by omega,rfl,rfl,rfl⟩;refine Wk.sub ?_ ?_<;>simp only [go_sem,sevalprocAttr]
  all_goals simp
 rintro t fr H ⟨k,hk,rfl,rfl,rfl⟩
 repeat' (first|omega|(first|apply ag|(refine aj.intro (id:=13) pY [[],[],[0,1],[0,1,2],[0,1],[0,1],[0,1],[2,3,4,5,6],[]] (by decide+kernel) mixed ?_)|(refine aj.intro (id:=14) pX [[],[0],[],[],[0,1,2,3],[0,1,2,3,4],[0,1,2,3],[0,1,2,3],[],[]] (by decide+kernel) mixed ?_)|skip);simp only [go_sem,sevalprocAttr,zzJ,↓reduceIte,reduceCtorEq,pY,pX]|apply ae<;>(intro h_;(try simp only [h_]);revert h_)|apply And.intro|with_reducible intro h_|trivial|simp only [go_sem,ah];omega)
 ·refine ⟨_,_,_,?_,?_,⟨k+1,by omega,rfl,rfl,rfl⟩⟩
  ·omega
  ·have e:((List.range k).map (fun (i:Nat)=>(i:Int))++List.replicate (n-k) 0).set k k=(List.range (k+1)).map (fun (i:Nat)=>(i:Int))++List.replicate (n-(k+1)) 0:=by
    rw [List.set_append,if_neg (by simp),show n-k=(n-(k+1))+1 by omega,List.replicate_succ];simp [List.range_succ]
   rw [e];refine Wk.sub ?_ ?_<;>simp only [go_sem,sevalprocAttr]
 obtain rfl:k=n:=by omega
 refine aR.intro (fun t fr H=> ∃q:Nat,q<=k/\t=k-q/\fr=[(6,I q),(4, .sl 1 0 0 k),(3,I k),(0,roI m)]/\H=[(0, .cells 3 (.ints (bB m k q)))]) ?_ ?_
 ·refine ⟨_,_,_,?_,0,by omega,rfl,rfl,rfl⟩;refine Wk.sub ?_ ?_<;>simp only [go_sem,sevalprocAttr]
  all_goals simp [bB]
 rintro t fr H ⟨q,hq,rfl,rfl,rfl⟩;have iI:=Gv m k q;by_cases hqk:q<k
 ·have bq:decide ((q:Int)<k)=true:=by simp;omega
  repeat' (first|omega|(first|apply ag|(refine aj.intro (id:=13) pY [[],[],[0,1],[0,1,2],[0,1],[0,1],[0,1],[2,3,4,5,6],[]] (by decide+kernel) mixed ?_)|(refine aj.intro (id:=14) pX [[],[0],[],[],[0,1,2,3],[0,1,2,3,4],[0,1,2,3],[0,1,2,3],[],[]] (by decide+kernel) mixed ?_)|skip);simp only [go_sem,sevalprocAttr,bq,↓reduceIte,reduceCtorEq,pY,pX]|apply ae<;>(intro h_;(try simp only [h_]);revert h_)|apply And.intro|with_reducible intro h_|trivial|simp only [go_sem,ah];omega)
  refine aR.intro (fun t fr H=> ∃h:Nat,h<=4*k/\t=4*k-h/\fr=[(7,I h),(6,I q),(4, .sl 1 0 0 k),(3,I k),(0,roI m)]/\H=[(0, .cells 3 (.ints (lP m (bB m k q) h)))]) ?_ ?_
  ·refine ⟨_,_,_,?_,0,by omega,rfl,rfl,rfl⟩;refine Wk.sub ?_ ?_<;>simp only [go_sem,sevalprocAttr]
   all_goals simp [lP]
  rintro t fr H ⟨h,hh,rfl,rfl,rfl⟩;have B7:(lP m (bB m k q) h).length=k:=by rw [Gw,iI]
  by_cases hhk:h<4*k
  ·have bh:decide ((h:Int)<m.length)=true:=by simp;omega
   have hr:=l5 h hhk;have e1:(h:Int).tdiv 4=((h/4:Nat):Int):=by rw [sG (by omega)];omega
   have e2:(m.getD h 0).tdiv 4=((m.getD h 0/4).toNat:Int):=by rw [sG (by omega)];omega
   have e3:(m.getD h 0/4).toNat<k:=by omega
   repeat' (first|omega|(first|apply ag|(refine aj.intro (id:=13) pY [[],[],[0,1],[0,1,2],[0,1],[0,1],[0,1],[2,3,4,5,6],[]] (by decide+kernel) mixed ?_)|(refine aj.intro (id:=14) pX [[],[0],[],[],[0,1,2,3],[0,1,2,3,4],[0,1,2,3],[0,1,2,3],[],[]] (by decide+kernel) mixed ?_)|skip);simp only [go_sem,sevalprocAttr,bh,e1,e2,↓reduceIte,reduceCtorEq,pY,pX]|apply ae<;>(intro h_;(try simp only [h_]);revert h_)|apply And.intro|with_reducible intro h_|trivial|simp only [go_sem,ah];omega)
   refine ⟨_,_,_,?_,?_,⟨h+1,by omega,rfl,rfl,rfl⟩⟩
   ·omega
   ·have em: ∀a b:Int,(if b<a then b else a)=min a b:=fun a b=>by split<;>omega
    have eh:lP m (bB m k q) (h+1)=((lP m (bB m k q) h).set (h/4) (min ((lP m (bB m k q) h).getD (h/4) 0) ((lP m (bB m k q) h).getD (m.getD h 0/4).toNat 0))).set (m.getD h 0/4).toNat (min ((lP m (bB m k q) h).getD (h/4) 0) ((lP m (bB m k q) h).getD (m.getD h 0/4).toNat 0)):=rfl;rw [eh];simp only [em];refine Wk.sub ?_ ?_<;>simp only [go_sem,sevalprocAttr]
  ·obtain rfl:h=4*k:=by omega
   have bh:decide (((4*k:Nat):Int)<m.length)=false:=by simp;omega
   repeat' (first|omega|(first|apply ag|(refine aj.intro (id:=13) pY [[],[],[0,1],[0,1,2],[0,1],[0,1],[0,1],[2,3,4,5,6],[]] (by decide+kernel) mixed ?_)|(refine aj.intro (id:=14) pX [[],[0],[],[],[0,1,2,3],[0,1,2,3,4],[0,1,2,3],[0,1,2,3],[],[]] (by decide+kernel) mixed ?_)|skip);simp only [go_sem,sevalprocAttr,bh,↓reduceIte,reduceCtorEq,pY,pX]|apply ae<;>(intro h_;(try simp only [h_]);revert h_)|apply And.intro|with_reducible intro h_|trivial|simp only [go_sem,ah];omega)
   refine ⟨_,_,_,?_,?_,⟨q+1,by omega,rfl,rfl,rfl⟩⟩
   ·omega
   ·rw [show bB m k (q+1)=lP m (bB m k q) (4*k) from rfl];refine Wk.sub ?_ ?_<;>simp only [go_sem,sevalprocAttr]
 ·obtain rfl:q=k:=by omega
  have bq:decide ((q:Int)<q)=false:=by simp
  repeat' (first|omega|(first|apply ag|(refine aj.intro (id:=13) pY [[],[],[0,1],[0,1,2],[0,1],[0,1],[0,1],[2,3,4,5,6],[]] (by decide+kernel) mixed ?_)|(refine aj.intro (id:=14) pX [[],[0],[],[],[0,1,2,3],[0,1,2,3,4],[0,1,2,3],[0,1,2,3],[],[]] (by decide+kernel) mixed ?_)|skip);simp only [go_sem,sevalprocAttr,bq,↓reduceIte,reduceCtorEq,pY,pX]|apply ae<;>(intro h_;(try simp only [h_]);revert h_)|apply And.intro|with_reducible intro h_|trivial|simp only [go_sem,ah];omega)
  all_goals first
   |omega
   |exact List.take_of_length_le (by omega)
def b7 (orb:Nat->List Int) (p:Nat->Bool) (k:Nat):List (List Int):=((List.range k).filter p).map orb
theorem Dm {orb:Nat->List Int} {p:Nat->Bool} {k:Nat} (h:p k=true):b7 orb p (k+1)=b7 orb p k++[orb k]:=by simp [b7,List.range_succ,List.filter_append,h]
theorem yb {orb:Nat->List Int} {p:Nat->Bool} {k:Nat} (h:p k=false):b7 orb p (k+1)=b7 orb p k:=by simp [b7,List.range_succ,List.filter_append,h]
theorem EI {x:Int} {l:List Int} {i:Nat} (h:i<l.length):gN x (l.take (i+1))=(gN x (l.take i)&&decide (x<=l.getD i 0)):=by
 unfold gN;rw [List.take_succ_eq_append_getElem h,List.all_append];simp [h]
theorem QO (ls:List (List Int)) (l:List Int):ls.map jZ++[AV.ro 1 l.length (.ints l)]=(ls++[l]).map jZ:=by simp [jZ]
theorem OQ (nx:Int->Int) (x:Int): ∀f g,(eZ nx x f g).length<=f
 |0,_=>by simp [eZ]
 |f+1,g=>by
  unfold eZ
  split
  ·simp
  ·simp only [zzG];have:=OQ nx x f (nx g);omega
theorem OP (nx:Int->Int) (N:Nat) (x:Int):(ak nx N x).length<=N+1:=by
 unfold ak;simp only [zzG];have:=OQ nx x N (nx x);omega
theorem Xf (m:List Int) (n:Nat) (hn:n<=1000) (fv:m.length=4*n) (hm: ∀i,i<m.length->0<=m.getD i 0/\m.getD i 0<4*n):Fn Tryz.prog 62 [roI m] (kO (b7 (fun h=>ak (bJ m) m.length h) (fl m) m.length)):=by
 refine Fn.ai [.tmp 2] Tryz.func62 rfl rfl (by decide) (by simp [Tryz.ntmps62]) ?_;rw [Tryz.ntmps62]
 repeat' (first|omega|(try apply ag);simp only [go_sem,sevalprocAttr]|apply ae<;>(intro h_;(try simp only [h_]);revert h_)|apply And.intro|with_reducible intro h_|trivial|simp only [go_sem,ah];omega)
 refine aR.intro (fun t fr H=> ∃h:Nat,h<=m.length/\t=m.length-h/\((b7 (fun h=>ak (bJ m) m.length h) (fl m) h=[]/\fr=[(4,I h),(3, .nils),(0,roI m)]/\H=[])\/
  (fr=[(4,I h),(3, .sl 1 1 0 (b7 (fun h=>ak (bJ m) m.length h) (fl m) h).length),(0,roI m)]/\H=[(1, .cells 22 (.lst ((b7 (fun h=>ak (bJ m) m.length h) (fl m) h).map jZ)))]))) ?_ ?_
 ·refine ⟨_,_,_,?_,0,by omega,rfl, .inl ⟨rfl,rfl,rfl⟩⟩;refine Wk.sub ?_ ?_<;>simp only [go_sem,sevalprocAttr]
 rintro t fr H ⟨h,hh,rfl,cC⟩;have hlen:(b7 (fun h=>ak (bJ m) m.length h) (fl m) h).length<=h:=by
  have:=List.length_filter_le (fl m) (List.range h)
  simp only [b7,List.length_map];simp only [zzJ] at this;exact this
 have cI:(ak (bJ m) m.length h).length<=m.length+1:=OP _ _ _;rcases cC with ⟨bx,rfl,rfl⟩|⟨rfl,rfl⟩
 ·by_cases ax:h<m.length
  ·have bh:decide ((h:Int)<m.length)=true:=by simp;omega
   have hF:=OR m n h hn fv hm ax
   repeat' (first|omega|(try apply ag);simp only [go_sem,sevalprocAttr,bh]|apply ae<;>(intro h_;(try simp only [h_]);revert h_)|apply And.intro|with_reducible intro h_|trivial|simp only [go_sem,ah];omega)
   refine ⟨au.fn rfl hF ?_⟩
   repeat' (first|omega|(try apply ag);simp only [go_sem,sevalprocAttr]|apply ae<;>(intro h_;(try simp only [h_]);revert h_)|apply And.intro|with_reducible intro h_|trivial|simp only [go_sem,ah];omega)
   refine aR.intro (fun t fr H=> ∃i:Nat,i<=(ak (bJ m) m.length h).length/\t=(ak (bJ m) m.length h).length-i/\fr=[(7,I i),(6, .bool (gN h ((ak (bJ m) m.length h).take i))),(5,roI (ak (bJ m) m.length h)),(4,I h),(3, .nils),(0,roI m)]/\H=[]) ?_ ?_
   ·refine ⟨_,_,_,?_,0,by omega,rfl,rfl,rfl⟩;refine Wk.sub ?_ ?_<;>simp only [go_sem,sevalprocAttr]
    all_goals simp [gN]
   rintro t fr H ⟨i,hi,rfl,rfl,rfl⟩;by_cases bH:i<(ak (bJ m) m.length h).length
   ·have bi:decide ((i:Int)<(ak (bJ m) m.length h).length)=true:=by simp;omega
    have el:=EI (x:=h) bH;cases hb:gN h ((ak (bJ m) m.length h).take i) with
    |false=>
     rw [hb] at el
     repeat' (first|omega|(try apply ag);simp only [go_sem,sevalprocAttr,bi]|apply ae<;>(intro h_;(try simp only [h_]);revert h_)|apply And.intro|with_reducible intro h_|trivial|simp only [go_sem,ah];omega)
     refine ⟨_,_,_,?_,?_,⟨i+1,by omega,rfl,rfl,rfl⟩⟩
     ·omega
     ·rw [el];refine Wk.sub ?_ ?_<;>simp only [go_sem,sevalprocAttr]
    |true=>
     rw [hb] at el
     repeat' (first|omega|(try apply ag);simp only [go_sem,sevalprocAttr,bi]|apply ae<;>(intro h_;(try simp only [h_]);revert h_)|apply And.intro|with_reducible intro h_|trivial|simp only [go_sem,ah];omega)
     refine ⟨_,_,_,?_,?_,⟨i+1,by omega,rfl,rfl,rfl⟩⟩
     ·omega
     ·rw [el];refine Wk.sub ?_ ?_<;>simp only [go_sem,sevalprocAttr]
   ·obtain rfl:i=(ak (bJ m) m.length h).length:=by omega
    have bi:decide (((ak (bJ m) m.length h).length:Int)<(ak (bJ m) m.length h).length)=false:=by simp
    have ef:gN h ((ak (bJ m) m.length h).take (ak (bJ m) m.length h).length)=fl m h:=by rw [List.take_length];rfl
    rw [ef];cases hb:fl m h with
    |false=>
     have eS:=yb (orb:=fun h=>ak (bJ m) m.length h) hb
     repeat' (first|omega|(try apply ag);simp only [go_sem,sevalprocAttr,bi]|apply ae<;>(intro h_;(try simp only [h_]);revert h_)|apply And.intro|with_reducible intro h_|trivial|simp only [go_sem,ah];omega)
     refine ⟨_,_,_,?_,?_,⟨h+1,by omega,rfl, .inl ⟨by rw [eS];exact bx,rfl,rfl⟩⟩⟩
     ·omega
     ·first|rw [eS]|skip
      refine Wk.sub ?_ ?_<;>simp only [go_sem,sevalprocAttr]
    |true=>
     have eS:=Dm (orb:=fun h=>ak (bJ m) m.length h) hb
     repeat' (first|omega|(try apply ag);simp only [go_sem,sevalprocAttr,bi,List.length_map]|apply ae<;>(intro h_;(try simp only [h_]);revert h_)|apply And.intro|with_reducible intro h_|trivial|simp only [go_sem,ah];omega)
     refine ⟨_,_,_,?_,?_,⟨h+1,by omega,rfl, .inr ⟨rfl,rfl⟩⟩⟩
     ·omega
     ·rw [eS];rw [bx];refine Wk.sub ?_ ?_<;>simp only [go_sem,sevalprocAttr]
      all_goals first
       |rfl
       |exact ⟨rfl,rfl⟩
       |exact ⟨rfl,rfl,rfl⟩
  ·obtain rfl:h=m.length:=by omega
   have bh:decide ((m.length:Int)<m.length)=false:=by simp
   repeat' (first|omega|(try apply ag);simp only [go_sem,sevalprocAttr,bh]|apply ae<;>(intro h_;(try simp only [h_]);revert h_)|apply And.intro|with_reducible intro h_|trivial|simp only [go_sem,ah];omega)
   all_goals first
    |(rw [bx];exact az.nils (by omega) rfl)
    |exact sP _ _ _ _ h_
    |exact sP _ _ _ _ (List.mem_of_mem_take h_)
    |(rw [List.take_of_length_le (by simp)];exact az.refl _)
 ·by_cases ax:h<m.length
  ·have bh:decide ((h:Int)<m.length)=true:=by simp;omega
   have hF:=OR m n h hn fv hm ax
   repeat' (first|omega|(try apply ag);simp only [go_sem,sevalprocAttr,bh]|apply ae<;>(intro h_;(try simp only [h_]);revert h_)|apply And.intro|with_reducible intro h_|trivial|simp only [go_sem,ah];omega)
   refine ⟨au.fn rfl hF ?_⟩
   repeat' (first|omega|(try apply ag);simp only [go_sem,sevalprocAttr]|apply ae<;>(intro h_;(try simp only [h_]);revert h_)|apply And.intro|with_reducible intro h_|trivial|simp only [go_sem,ah];omega)
   refine aR.intro (fun t fr H=> ∃i:Nat,i<=(ak (bJ m) m.length h).length/\t=(ak (bJ m) m.length h).length-i/\fr=[(7,I i),(6, .bool (gN h ((ak (bJ m) m.length h).take i))),(5,roI (ak (bJ m) m.length h)),(4,I h),(3, .sl 1 1 0 (b7 (fun h=>ak (bJ m) m.length h) (fl m) h).length),(0,roI m)]/\H=[(1, .cells 22 (.lst ((b7 (fun h=>ak (bJ m) m.length h) (fl m) h).map jZ)))]) ?_ ?_
   ·refine ⟨_,_,_,?_,0,by omega,rfl,rfl,rfl⟩;refine Wk.sub ?_ ?_<;>simp only [go_sem,sevalprocAttr]
    all_goals simp [gN]
   rintro t fr H ⟨i,hi,rfl,rfl,rfl⟩;by_cases bH:i<(ak (bJ m) m.length h).length
   ·have bi:decide ((i:Int)<(ak (bJ m) m.length h).length)=true:=by simp;omega
    have el:=EI (x:=h) bH;cases hb:gN h ((ak (bJ m) m.length h).take i) with
    |false=>
     rw [hb] at el
     repeat' (first|omega|(try apply ag);simp only [go_sem,sevalprocAttr,bi]|apply ae<;>(intro h_;(try simp only [h_]);revert h_)|apply And.intro|with_reducible intro h_|trivial|simp only [go_sem,ah];omega)
     refine ⟨_,_,_,?_,?_,⟨i+1,by omega,rfl,rfl,rfl⟩⟩
     ·omega
     ·rw [el];refine Wk.sub ?_ ?_<;>simp only [go_sem,sevalprocAttr]
    |true=>
     rw [hb] at el
     repeat' (first|omega|(try apply ag);simp only [go_sem,sevalprocAttr,bi]|apply ae<;>(intro h_;(try simp only [h_]);revert h_)|apply And.intro|with_reducible intro h_|trivial|simp only [go_sem,ah];omega)
     refine ⟨_,_,_,?_,?_,⟨i+1,by omega,rfl,rfl,rfl⟩⟩
     ·omega
     ·rw [el];refine Wk.sub ?_ ?_<;>simp only [go_sem,sevalprocAttr]
   ·obtain rfl:i=(ak (bJ m) m.length h).length:=by omega
    have bi:decide (((ak (bJ m) m.length h).length:Int)<(ak (bJ m) m.length h).length)=false:=by simp
    have ef:gN h ((ak (bJ m) m.length h).take (ak (bJ m) m.length h).length)=fl m h:=by rw [List.take_length];rfl
    rw [ef];cases hb:fl m h with
    |false=>
     have eS:=yb (orb:=fun h=>ak (bJ m) m.length h) hb
     repeat' (first|omega|(try apply ag);simp only [go_sem,sevalprocAttr,bi]|apply ae<;>(intro h_;(try simp only [h_]);revert h_)|apply And.intro|with_reducible intro h_|trivial|simp only [go_sem,ah];omega)
     refine ⟨_,_,_,?_,?_,⟨h+1,by omega,rfl, .inr ⟨rfl,rfl⟩⟩⟩
     ·omega
     ·first|rw [eS]|skip
      refine Wk.sub ?_ ?_<;>simp only [go_sem,sevalprocAttr]
    |true=>
     have eS:=Dm (orb:=fun h=>ak (bJ m) m.length h) hb
     repeat' (first|omega|(try apply ag);simp only [go_sem,sevalprocAttr,bi,List.length_map]|apply ae<;>(intro h_;(try simp only [h_]);revert h_)|apply And.intro|with_reducible intro h_|trivial|simp only [go_sem,ah];omega)
     refine ⟨_,_,_,?_,?_,⟨h+1,by omega,rfl, .inr ⟨rfl,rfl⟩⟩⟩
     ·omega
     ·rw [eS];rw [QO];refine Wk.sub ?_ ?_<;>simp only [go_sem,sevalprocAttr]
      all_goals first
       |rfl
       |exact ⟨rfl,rfl⟩
       |exact ⟨rfl,rfl,rfl⟩
  ·obtain rfl:h=m.length:=by omega
   have bh:decide ((m.length:Int)<m.length)=false:=by simp
   repeat' (first|omega|(try apply ag);simp only [go_sem,sevalprocAttr,bh]|apply ae<;>(intro h_;(try simp only [h_]);revert h_)|apply And.intro|with_reducible intro h_|trivial|simp only [go_sem,ah];omega)
   all_goals first
    |(rw [bx];exact az.nils (by omega) rfl)
    |exact sP _ _ _ _ h_
    |exact sP _ _ _ _ (List.mem_of_mem_take h_)
    |(rw [List.take_of_length_le (by simp)];exact az.refl _)
theorem Qi (s m:List Int) (L:Int) (n h:Nat) (hn:n<=1000) (fv:m.length=4*n) (hm: ∀i,i<m.length->0<=m.getD i 0/\m.getD i 0<4*n) (hh:h<m.length):Fn Tryz.prog 109 [dgA s m L,I h] (roI (ak (a8 m) m.length h)):=by
 have rz: ∀g:Nat,g<m.length->Fn Tryz.prog 137 [I (m.getD g 0),I 2] (I (a8 m g)):=fun g hg=>by
  have:=hm g hg
  exact Em _ _ (by omega) (by omega)
 have mS: ∀g:Nat,g<m.length->0<=a8 m g/\a8 m g<4*n:=fun g hg=>EJ (hm g hg).1 (hm g hg).2;have pI: ∀g:Nat,g<m.length->(g:Int)<m.length:=fun g hg=>by omega
 have LH:=rz h hh;refine Fn.intro [.tmp 4] Tryz.func109 rfl rfl (by decide) (by simp [Tryz.ntmps109]) ?_;rw [Tryz.ntmps109]
 repeat' (first|omega|(try apply ag);simp only [go_sem,sevalprocAttr]|apply ae<;>(intro h_;(try simp only [h_]);revert h_)|apply And.intro|with_reducible intro h_|trivial|simp only [go_sem,ah];omega)
 refine ⟨au.fn rfl LH ?_⟩
 repeat' (first|omega|(try apply ag);simp only [go_sem,sevalprocAttr]|apply ae<;>(intro h_;(try simp only [h_]);revert h_)|apply And.intro|with_reducible intro h_|trivial|simp only [go_sem,ah];omega)
 refine aR.intro (fun k fr H=> ∃(acc:List Int) (g:Nat),g<m.length/\0<acc.length/\acc.length+k=m.length+2/\acc++eZ (a8 m) h (m.length+1-acc.length) g=ak (a8 m) m.length h/\fr=[(6,I g),(5, .sl 1 1 0 acc.length),(2, .ptr 0 0),(1,I h)]/\H=[(1, .cells 3 (.ints acc)),(0, .cells 24 (.lst [roI s,roI m,I L]))]) ?_ ?_
 ·have h2:=mS h hh;refine ⟨m.length+1,_,_,?_,[(h:Int)],(a8 m h).toNat,by omega,by simp,by simp;omega,?_,rfl,rfl⟩
  ·refine Wk.sub ?_ ?_<;>simp only [go_sem,sevalprocAttr]
   all_goals omega
  ·rw [Int.toNat_of_nonneg h2.1];simp [ak]
 rintro k fr H ⟨acc,g,hg,ha,hk,nh,rfl,rfl⟩;have s9:=rz g hg;have hr:=mS g hg;have key:((g:Int)=h\/m.length<acc.length)->acc=ak (a8 m) m.length h:=fun hc=>by
  rw [←nh];rcases hc with e|e
  ·have:eZ (a8 m) h (m.length+1-acc.length) g=[]:=by
    cases m.length+1-acc.length with
    |zero=>rfl
    |succ f=>simp [eZ,e]
   rw [this,List.append_nil]
  ·rw [show m.length+1-acc.length=0 by omega];simp [eZ]
 repeat' (first|omega|(try apply ag);simp only [go_sem,sevalprocAttr]|apply ae<;>(intro h_;(try simp only [h_]);revert h_)|apply And.intro|with_reducible intro h_|trivial|simp only [go_sem,ah];omega)
 ·refine ⟨au.fn rfl s9 ?_⟩
  repeat' (first|omega|(try apply ag);simp only [go_sem,sevalprocAttr]|apply ae<;>(intro h_;(try simp only [h_]);revert h_)|apply And.intro|with_reducible intro h_|trivial|simp only [go_sem,ah];omega)
  refine ⟨k-1,_,_,?_,?_,⟨acc++[(g:Int)],(a8 m g).toNat,by omega,by simp,by simp;omega,?_,rfl,rfl⟩⟩
  ·omega
  ·refine Wk.sub ?_ ?_<;>simp only [go_sem,sevalprocAttr]
   all_goals omega
  ·rw [←nh,Int.toNat_of_nonneg hr.1,show m.length+1-acc.length=(m.length+1-(acc++[(g:Int)]).length)+1 by simp;omega];rw [eZ,if_neg (by omega)];simp
 all_goals first
  |exact congrArg List.length (key (by omega))
  |(rw [List.take_length];exact key (by omega))
def lk (s m:List Int) (h:Nat):Bool:=aB s h&&gN h (ak (a8 m) m.length h)
theorem Uq (s m:List Int) (L:Int) (n:Nat) (dL:s.length=n) (hn:n<=1000) (fv:m.length=4*n) (hm: ∀i,i<m.length->0<=m.getD i 0/\m.getD i 0<4*n):Fn Tryz.prog 71 [dgA s m L] (kO (b7 (fun h=>ak (a8 m) m.length h) (lk s m) m.length)):=by
 refine Fn.ai [.tmp 2] Tryz.func71 rfl rfl (by decide) (by simp [Tryz.ntmps71]) ?_;rw [Tryz.ntmps71]
 repeat' (first|omega|(try apply ag);simp only [go_sem,sevalprocAttr]|apply ae<;>(intro h_;(try simp only [h_]);revert h_)|apply And.intro|with_reducible intro h_|trivial|simp only [go_sem,ah];omega)
 refine aR.intro (fun t fr H=> ∃h:Nat,h<=m.length/\t=m.length-h/\((b7 (fun h=>ak (a8 m) m.length h) (lk s m) h=[]/\fr=[(4,I h),(3, .nils),(1, .ptr 0 0)]/\H=[(0, .cells 24 (.lst [roI s,roI m,I L]))])\/
  (fr=[(4,I h),(3, .sl 1 2 0 (b7 (fun h=>ak (a8 m) m.length h) (lk s m) h).length),(1, .ptr 0 0)]/\H=[(2, .cells 22 (.lst ((b7 (fun h=>ak (a8 m) m.length h) (lk s m) h).map jZ))),(0, .cells 24 (.lst [roI s,roI m,I L]))]))) ?_ ?_
 ·refine ⟨_,_,_,?_,0,by omega,rfl, .inl ⟨rfl,rfl,rfl⟩⟩;refine Wk.sub ?_ ?_<;>simp only [go_sem,sevalprocAttr]
 rintro t fr H ⟨h,hh,rfl,cC⟩;have hlen:(b7 (fun h=>ak (a8 m) m.length h) (lk s m) h).length<=h:=by
  have:=List.length_filter_le (lk s m) (List.range h)
  simp only [b7,List.length_map];simp only [zzJ] at this;exact this
 have cI:(ak (a8 m) m.length h).length<=m.length+1:=OP _ _ _;rcases cC with ⟨bx,rfl,rfl⟩|⟨rfl,rfl⟩
 ·by_cases ax:h<m.length
  ·have bh:decide ((h:Int)<m.length)=true:=by simp;omega
   have hF:=Qi s m L n h hn fv hm ax;have hO:=DK s h (by omega) (by omega) (by omega)
   repeat' (first|omega|(try apply ag);simp only [go_sem,sevalprocAttr,bh]|apply ae<;>(intro h_;(try simp only [h_]);revert h_)|apply And.intro|with_reducible intro h_|trivial|simp only [go_sem,ah];omega)
   refine ⟨au.fn rfl hO ?_⟩;cases fj:aB s h with
   |false=>
    have hb:lk s m h=false:=by simp [lk,fj]
    have eS:=yb (orb:=fun h=>ak (a8 m) m.length h) hb
    repeat' (first|omega|(try apply ag);simp only [go_sem,sevalprocAttr]|apply ae<;>(intro h_;(try simp only [h_]);revert h_)|apply And.intro|with_reducible intro h_|trivial|simp only [go_sem,ah];omega)
    refine ⟨_,_,_,?_,?_,⟨h+1,by omega,rfl, .inl ⟨by rw [eS];exact bx,rfl,rfl⟩⟩⟩
    ·omega
    ·first|rw [eS]|skip
     refine Wk.sub ?_ ?_<;>simp only [go_sem,sevalprocAttr]
   |true=>
    repeat' (first|omega|(try apply ag);simp only [go_sem,sevalprocAttr]|apply ae<;>(intro h_;(try simp only [h_]);revert h_)|apply And.intro|with_reducible intro h_|trivial|simp only [go_sem,ah];omega)
    refine ⟨au.fn rfl hF ?_⟩
    repeat' (first|omega|(try apply ag);simp only [go_sem,sevalprocAttr]|apply ae<;>(intro h_;(try simp only [h_]);revert h_)|apply And.intro|with_reducible intro h_|trivial|simp only [go_sem,ah];omega)
    refine aR.intro (fun t fr H=> ∃i:Nat,i<=(ak (a8 m) m.length h).length/\t=(ak (a8 m) m.length h).length-i/\fr=[(7,I i),(6, .bool (gN h ((ak (a8 m) m.length h).take i))),(5,roI (ak (a8 m) m.length h)),(4,I h),(3, .nils),(1, .ptr 0 0)]/\H=[(0, .cells 24 (.lst [roI s,roI m,I L]))]) ?_ ?_
    ·refine ⟨_,_,_,?_,0,by omega,rfl,rfl,rfl⟩;refine Wk.sub ?_ ?_<;>simp only [go_sem,sevalprocAttr]
     all_goals simp [gN]
    rintro t fr H ⟨i,hi,rfl,rfl,rfl⟩;by_cases bH:i<(ak (a8 m) m.length h).length
    ·have bi:decide ((i:Int)<(ak (a8 m) m.length h).length)=true:=by simp;omega
     have el:=EI (x:=h) bH;cases hb:gN h ((ak (a8 m) m.length h).take i) with
     |false=>
      rw [hb] at el
      repeat' (first|omega|(try apply ag);simp only [go_sem,sevalprocAttr,bi]|apply ae<;>(intro h_;(try simp only [h_]);revert h_)|apply And.intro|with_reducible intro h_|trivial|simp only [go_sem,ah];omega)
      refine ⟨_,_,_,?_,?_,⟨i+1,by omega,rfl,rfl,rfl⟩⟩
      ·omega
      ·rw [el];refine Wk.sub ?_ ?_<;>simp only [go_sem,sevalprocAttr]
     |true=>
      rw [hb] at el
      repeat' (first|omega|(try apply ag);simp only [go_sem,sevalprocAttr,bi]|apply ae<;>(intro h_;(try simp only [h_]);revert h_)|apply And.intro|with_reducible intro h_|trivial|simp only [go_sem,ah];omega)
      refine ⟨_,_,_,?_,?_,⟨i+1,by omega,rfl,rfl,rfl⟩⟩
      ·omega
      ·rw [el];refine Wk.sub ?_ ?_<;>simp only [go_sem,sevalprocAttr]
    ·obtain rfl:i=(ak (a8 m) m.length h).length:=by omega
     have bi:decide (((ak (a8 m) m.length h).length:Int)<(ak (a8 m) m.length h).length)=false:=by simp
     have ef:gN h ((ak (a8 m) m.length h).take (ak (a8 m) m.length h).length)=lk s m h:=by rw [List.take_length];simp [lk,fj]
     rw [ef];cases hb:lk s m h with
     |false=>
      have eS:=yb (orb:=fun h=>ak (a8 m) m.length h) hb
      repeat' (first|omega|(try apply ag);simp only [go_sem,sevalprocAttr,bi]|apply ae<;>(intro h_;(try simp only [h_]);revert h_)|apply And.intro|with_reducible intro h_|trivial|simp only [go_sem,ah];omega)
      refine ⟨_,_,_,?_,?_,⟨h+1,by omega,rfl, .inl ⟨by rw [eS];exact bx,rfl,rfl⟩⟩⟩
      ·omega
      ·first|rw [eS]|skip
       refine Wk.sub ?_ ?_<;>simp only [go_sem,sevalprocAttr]
     |true=>
      have eS:=Dm (orb:=fun h=>ak (a8 m) m.length h) hb
      repeat' (first|omega|(try apply ag);simp only [go_sem,sevalprocAttr,bi,List.length_map]|apply ae<;>(intro h_;(try simp only [h_]);revert h_)|apply And.intro|with_reducible intro h_|trivial|simp only [go_sem,ah];omega)
      refine ⟨_,_,_,?_,?_,⟨h+1,by omega,rfl, .inr ⟨rfl,rfl⟩⟩⟩
      ·omega
      ·rw [eS];rw [bx];refine Wk.sub ?_ ?_<;>simp only [go_sem,sevalprocAttr]
       all_goals first
        |rfl
        |exact ⟨rfl,rfl⟩
        |exact ⟨rfl,rfl,rfl⟩
  ·obtain rfl:h=m.length:=by omega
   have bh:decide ((m.length:Int)<m.length)=false:=by simp
   repeat' (first|omega|(try apply ag);simp only [go_sem,sevalprocAttr,bh]|apply ae<;>(intro h_;(try simp only [h_]);revert h_)|apply And.intro|with_reducible intro h_|trivial|simp only [go_sem,ah];omega)
   all_goals first
    |(rw [bx];exact az.nils (by omega) rfl)
    |exact sP _ _ _ _ h_
    |exact sP _ _ _ _ (List.mem_of_mem_take h_)
    |(rw [List.take_of_length_le (by simp)];exact az.refl _)
 ·by_cases ax:h<m.length
  ·have bh:decide ((h:Int)<m.length)=true:=by simp;omega
   have hF:=Qi s m L n h hn fv hm ax;have hO:=DK s h (by omega) (by omega) (by omega)
   repeat' (first|omega|(try apply ag);simp only [go_sem,sevalprocAttr,bh]|apply ae<;>(intro h_;(try simp only [h_]);revert h_)|apply And.intro|with_reducible intro h_|trivial|simp only [go_sem,ah];omega)
   refine ⟨au.fn rfl hO ?_⟩;cases fj:aB s h with
   |false=>
    have hb:lk s m h=false:=by simp [lk,fj]
    have eS:=yb (orb:=fun h=>ak (a8 m) m.length h) hb
    repeat' (first|omega|(try apply ag);simp only [go_sem,sevalprocAttr]|apply ae<;>(intro h_;(try simp only [h_]);revert h_)|apply And.intro|with_reducible intro h_|trivial|simp only [go_sem,ah];omega)
    refine ⟨_,_,_,?_,?_,⟨h+1,by omega,rfl, .inr ⟨rfl,rfl⟩⟩⟩
    ·omega
    ·first|rw [eS]|skip
     refine Wk.sub ?_ ?_<;>simp only [go_sem,sevalprocAttr]
   |true=>
    repeat' (first|omega|(try apply ag);simp only [go_sem,sevalprocAttr]|apply ae<;>(intro h_;(try simp only [h_]);revert h_)|apply And.intro|with_reducible intro h_|trivial|simp only [go_sem,ah];omega)
    refine ⟨au.fn rfl hF ?_⟩
    repeat' (first|omega|(try apply ag);simp only [go_sem,sevalprocAttr]|apply ae<;>(intro h_;(try simp only [h_]);revert h_)|apply And.intro|with_reducible intro h_|trivial|simp only [go_sem,ah];omega)
    refine aR.intro (fun t fr H=> ∃i:Nat,i<=(ak (a8 m) m.length h).length/\t=(ak (a8 m) m.length h).length-i/\fr=[(7,I i),(6, .bool (gN h ((ak (a8 m) m.length h).take i))),(5,roI (ak (a8 m) m.length h)),(4,I h),(3, .sl 1 2 0 (b7 (fun h=>ak (a8 m) m.length h) (lk s m) h).length),(1, .ptr 0 0)]/\H=[(2, .cells 22 (.lst ((b7 (fun h=>ak (a8 m) m.length h) (lk s m) h).map jZ))),(0, .cells 24 (.lst [roI s,roI m,I L]))]) ?_ ?_
    ·refine ⟨_,_,_,?_,0,by omega,rfl,rfl,rfl⟩;refine Wk.sub ?_ ?_<;>simp only [go_sem,sevalprocAttr]
     all_goals simp [gN]
    rintro t fr H ⟨i,hi,rfl,rfl,rfl⟩;by_cases bH:i<(ak (a8 m) m.length h).length
    ·have bi:decide ((i:Int)<(ak (a8 m) m.length h).length)=true:=by simp;omega
     have el:=EI (x:=h) bH;cases hb:gN h ((ak (a8 m) m.length h).take i) with
     |false=>
      rw [hb] at el
      repeat' (first|omega|(try apply ag);simp only [go_sem,sevalprocAttr,bi]|apply ae<;>(intro h_;(try simp only [h_]);revert h_)|apply And.intro|with_reducible intro h_|trivial|simp only [go_sem,ah];omega)
      refine ⟨_,_,_,?_,?_,⟨i+1,by omega,rfl,rfl,rfl⟩⟩
      ·omega
      ·rw [el];refine Wk.sub ?_ ?_<;>simp only [go_sem,sevalprocAttr]
     |true=>
      rw [hb] at el
      repeat' (first|omega|(try apply ag);simp only [go_sem,sevalprocAttr,bi]|apply ae<;>(intro h_;(try simp only [h_]);revert h_)|apply And.intro|with_reducible intro h_|trivial|simp only [go_sem,ah];omega)
      refine ⟨_,_,_,?_,?_,⟨i+1,by omega,rfl,rfl,rfl⟩⟩
      ·omega
      ·rw [el];refine Wk.sub ?_ ?_<;>simp only [go_sem,sevalprocAttr]
    ·obtain rfl:i=(ak (a8 m) m.length h).length:=by omega
     have bi:decide (((ak (a8 m) m.length h).length:Int)<(ak (a8 m) m.length h).length)=false:=by simp
     have ef:gN h ((ak (a8 m) m.length h).take (ak (a8 m) m.length h).length)=lk s m h:=by rw [List.take_length];simp [lk,fj]
     rw [ef];cases hb:lk s m h with
     |false=>
      have eS:=yb (orb:=fun h=>ak (a8 m) m.length h) hb
      repeat' (first|omega|(try apply ag);simp only [go_sem,sevalprocAttr,bi]|apply ae<;>(intro h_;(try simp only [h_]);revert h_)|apply And.intro|with_reducible intro h_|trivial|simp only [go_sem,ah];omega)
      refine ⟨_,_,_,?_,?_,⟨h+1,by omega,rfl, .inr ⟨rfl,rfl⟩⟩⟩
      ·omega
      ·first|rw [eS]|skip
       refine Wk.sub ?_ ?_<;>simp only [go_sem,sevalprocAttr]
     |true=>
      have eS:=Dm (orb:=fun h=>ak (a8 m) m.length h) hb
      repeat' (first|omega|(try apply ag);simp only [go_sem,sevalprocAttr,bi,List.length_map]|apply ae<;>(intro h_;(try simp only [h_]);revert h_)|apply And.intro|with_reducible intro h_|trivial|simp only [go_sem,ah];omega)
      refine ⟨_,_,_,?_,?_,⟨h+1,by omega,rfl, .inr ⟨rfl,rfl⟩⟩⟩
      ·omega
      ·rw [eS];rw [QO];refine Wk.sub ?_ ?_<;>simp only [go_sem,sevalprocAttr]
       all_goals first
        |rfl
        |exact ⟨rfl,rfl⟩
        |exact ⟨rfl,rfl,rfl⟩
  ·obtain rfl:h=m.length:=by omega
   have bh:decide ((m.length:Int)<m.length)=false:=by simp
   repeat' (first|omega|(try apply ag);simp only [go_sem,sevalprocAttr,bh]|apply ae<;>(intro h_;(try simp only [h_]);revert h_)|apply And.intro|with_reducible intro h_|trivial|simp only [go_sem,ah];omega)
   all_goals first
    |(rw [bx];exact az.nils (by omega) rfl)
    |exact sP _ _ _ _ h_
    |exact sP _ _ _ _ (List.mem_of_mem_take h_)
    |(rw [List.take_of_length_le (by simp)];exact az.refl _)
theorem Uh {s:List Int} {h:Int} (h0:0<=h) (hs:s.getD (h/4).toNat 0=1\/s.getD (h/4).toNat 0= -1):aB s (fC h 2)= !aB s h:=by
 have e:fC h 2=h-h % 4+(h % 4+2)% 4:=by
  unfold fC
  have:Int.tmod 2 4=2:=rfl
  rw [this];omega
 have ed:fC h 2/4=h/4:=by rw [e];omega
 have em:fC h 2 % 4=(h % 4+2)% 4:=by rw [e];omega
 unfold aB;rw [ed,em]
 have:h % 4=0\/h % 4=1\/h % 4=2\/h % 4=3:=by omega
 rcases this with g|g|g|g<;>rcases hs with k|k<;>rw [g,k]<;>decide
theorem Kv {s m:List Int} {L:Int} (hv:x8 s m L) {x:Nat} (hx:x<4*s.length):aB s (a8 m x)=aB s x:=by
 have hm:=hv.mt x hx;have hr:=hm.1;have hl:=hm.2.1
 have:=Uh (s:=s) (h:=m.getD x 0) hr (hv.sg _ (by omega))
 unfold a8;rw [zzC,this];have av:=hm.2.2.2.2;cases h1:aB s x<;>cases h2:aB s (m.getD x 0)<;>simp_all
theorem NT {s m:List Int} {L:Int} (hv:x8 s m L) {x:Nat} (hx:x<4*s.length): ∀j,aB s (it (a8 m) j x)=aB s x
 |0=>rfl
 |j+1=>by
  have hR:aw s.length (x:Int):=by unfold aw;omega
  have hS:=(tE hv.prd).it hR j;unfold aw at hS;have e:it (a8 m) j (x:Int)=((it (a8 m) j (x:Int)).toNat:Int):=by omega
  have h1:=Kv hv (x:=(it (a8 m) j (x:Int)).toNat) (by omega);rw [←e] at h1;show aB s (a8 m (it (a8 m) j x))=_;rw [h1,NT hv hx j]
theorem Up {s m:List Int} {L:Int} (hv:x8 s m L):b7 (fun h=>ak (a8 m) m.length h) (lk s m) m.length=ff s m:=by
 have hl:=hv.len;have hR: ∀x:Nat,x<m.length->aw s.length (x:Int):=fun x hx=>by unfold aw;omega
 have gD:=fun (x:Nat) (hx:x<m.length)=>by
  have:=wE (tE hv.prd) (hR x hx)
  rw [←hl] at this;exact this
 refine (GP (N:=m.length) (want:=aB s) (orb:=ak (a8 m) m.length) ?_ ?_ ?_ ?_ m.length (zzA _)).1.symm
 ·intro x hx _ y hy
  have:=(gD x hx).2.1 y hy
  unfold aw at this;omega
 ·intro x hx _;exact (gD x hx).2.2.2.2.1
 ·intro x y hx hy hw hm;refine ⟨?_,(gD x hx).2.2.1 y hm⟩;obtain ⟨j,hj⟩:=((gD x hx).1 y).1 hm;rw [←hj,NT hv (by omega) j];exact hw
 ·intro x y z hx hy hz _ h1 h2;exact (gD x hx).2.2.2.1 y h1 z h2
def Sc:Tr:= .node [(0, .node [(1, .node [(2,trD [3,4,5,6]),(3, .node [(2,trD [4,5,6]),(4,trD [2,5,6])])]),(3, .node [(1, .node [(2,trD [4,5,6]),(4,trD [2,5,6])]),(4,trD [1,2,5,6])])]),(3, .node [(0, .node [(1, .node [(2,trD [4,5,6]),(4,trD [2,5,6])]),(4,trD [1,2,5,6])]),(4,trD [0,1,2,5,6])])]
theorem U3 (s m:List Int) (L:Int) (hv:cX s m L=true):Fn Tryz.prog 27 [dgA s m L] (I ((ff s m).length+L)):=by
 have v1:=jb hv;have CG:=v1.s64;have hl:=v1.len;have h0:=v1.l0;have h1:=v1.EU;have hS:=Uq s m L s.length rfl (by omega) hl (fun i hi=>v1.prd.ok.2 i (by omega));rw [Up v1] at hS;have dL:=EL s m;refine Fn.intro [.tmp 2] Tryz.func27 rfl rfl (by decide) (by simp [Tryz.ntmps27]) ?_;rw [Tryz.ntmps27]
 repeat' (first|omega|(first|apply ag|(refine aj.intro (id:=1) [[6,7],[6,7],[6,7],[3,4,5],[3,4,5],[],[]] [[],[],[],[0,1,2],[0,1,2],[],[]] (by decide+kernel) mixed ?_)|(refine aj.ay (id:=1) (Sc) (by decide+kernel) mixed ?_)|skip);simp only [go_sem,sevalprocAttr,↓reduceIte,reduceCtorEq,Sc]|apply ae<;>(intro h_;(try simp only [h_]);revert h_)|apply And.intro|with_reducible intro h_|trivial|simp only [go_sem,ah];omega)
 refine ⟨bI.fn rfl hS ?_⟩
 repeat' (first|omega|(try apply ag);simp only [go_sem,sevalprocAttr]|apply ae<;>(intro h_;(try simp only [h_]);revert h_)|apply And.intro|with_reducible intro h_|trivial|simp only [go_sem,ah];omega)
end Go.Proofs.YtmdjdekgakidhaaGreatDoor
