/- The reference of layer 12: the product of two polynomials. -/
import Derived.Test.YtmdjdekgakidhaaGreatDoorZg
import Derived.Test.YtmdjdekgakidhaaGreatDoorZa
import Derived.Test.YtmdjdekgakidhaaGreatDoorZe
import Derived.Test.YtmdjdekgakidhaaGreatDoorPl
set_option linter.unusedSimpArgs false
set_option linter.unusedVariables false
namespace Go.Proofs.YtmdjdekgakidhaaGreatDoor
open Go Go.RowKit
set_option maxRecDepth 100000
set_option maxHeartbeats 8000000
def uW:List (List Nat):=[[32,33,34,35,36,37,38,39,40,41,42,43,44,45,46,47,48,49,50,51,52,53,54,55,56,57,58],[31,33,34,35,36,37,38,39,40,41,42,43,44,45,46,47,48,49,50,51,52,53,54,55,56,57,58],[31,32,35,39,40,41,42,43,44,46,47,48,49,50,51,52,53,54,55,56,57,58],[31,32,35,39,40,41,42,43,44,46,47,48,49,50,51,52,53,54,55,56,57,58],[31,32,33,34,39,40,41,42,43,44,46,47,48,49,50,51,52,53,54,55,56,57,58],[31,32,39,40,41,42,43,44,46,47,48,49,50,51,52,53,54,55,56,57,58],[31,32,39,40,41,42,43,44,46,47,48,49,50,51,52,53,54,55,56,57,58],[31,32,39,40,41,42,43,44,46,47,48,49,50,51,52,53,54,55,56,57,58],[31,32,33,34,35,36,37,38,41,46,47,48,49,50,51,52,53,54,55,56,57,58],[31,32,33,34,35,36,37,38,41,46,47,48,49,50,51,52,53,54,55,56,57,58],[31,32,33,34,35,36,37,38,39,40,46,47,48,49,50,51,52,53,54,55,56,57,58],[31,32,33,34,35,36,37,38,46,47,48,49,50,51,52,53,54,55,56,57,58],[31,32,33,34,35,36,37,38,46,47,48,49,50,51,52,53,54,55,56,57,58],[31,32,33,34,35,36,37,38,46,47,48,49,50,51,52,53,54,55,56,57,58],[31,32,46,47,48,49,50,51,52,53,54,55,56,57,58],[31,32,33,34,35,36,37,38,39,40,41,42,43,44,45,48,52,53,54,55,56,57],[31,32,33,34,35,36,37,38,39,40,41,42,43,44,45,48,52,53,54,55,56,57],[31,32,33,34,35,36,37,38,39,40,41,42,43,44,45,46,47,52,53,54,55,56,57],[31,32,33,34,35,36,37,38,39,40,41,42,43,44,45,52,53,54,55,56,57],[31,32,33,34,35,36,37,38,39,40,41,42,43,44,45,52,53,54,55,56,57],[31,32,33,34,35,36,37,38,39,40,41,42,43,44,45,52,53,54,55,56,57],[31,32,33,34,35,36,37,38,39,40,41,42,43,44,45,46,47,48,49,50,51,54],[31,32,33,34,35,36,37,38,39,40,41,42,43,44,45,46,47,48,49,50,51,54],[31,32,33,34,35,36,37,38,39,40,41,42,43,44,45,46,47,48,49,50,51,52,53],[31,32,33,34,35,36,37,38,39,40,41,42,43,44,45,46,47,48,49,50,51],[31,32,33,34,35,36,37,38,39,40,41,42,43,44,45,46,47,48,49,50,51],[31,32,33,34,35,36,37,38,39,40,41,42,43,44,45,46,47,48,49,50,51],[31,32,33,34,35,36,37,38,39,40,41,42,43,44,45],[],[],[61],[60,5],[61],[]]
def uV:List (List Nat):=[[],[0],[0,1],[0,1],[0,1,2,3],[0,1],[0,1],[0,1],[0,1,2,3,4,5,6,7],[0,1,2,3,4,5,6,7],[0,1,2,3,4,5,6,7,8,9],[0,1,2,3,4,5,6,7],[0,1,2,3,4,5,6,7],[0,1,2,3,4,5,6,7],[0,1],[0,1,2,3,4,5,6,7,8,9,10,11,12,13,14],[0,1,2,3,4,5,6,7,8,9,10,11,12,13,14],[0,1,2,3,4,5,6,7,8,9,10,11,12,13,14,15,16],[0,1,2,3,4,5,6,7,8,9,10,11,12,13,14],[0,1,2,3,4,5,6,7,8,9,10,11,12,13,14],[0,1,2,3,4,5,6,7,8,9,10,11,12,13,14],[0,1,2,3,4,5,6,7,8,9,10,11,12,13,14,15,16,17,18,19,20],[0,1,2,3,4,5,6,7,8,9,10,11,12,13,14,15,16,17,18,19,20],[0,1,2,3,4,5,6,7,8,9,10,11,12,13,14,15,16,17,18,19,20,21,22],[0,1,2,3,4,5,6,7,8,9,10,11,12,13,14,15,16,17,18,19,20],[0,1,2,3,4,5,6,7,8,9,10,11,12,13,14,15,16,17,18,19,20],[0,1,2,3,4,5,6,7,8,9,10,11,12,13,14,15,16,17,18,19,20],[0,1,2,3,4,5,6,7,8,9,10,11,12,13,14],[],[],[],[30],[31],[]]
theorem Vv {a b A B:Int} (ha: -A<=a/\a<=A) (hb: -B<=b/\b<=B): -(A*B)<=a*b/\a*b<=A*B:=by
 have h:(a*b).natAbs<=A.natAbs*B.natAbs:=by rw [Int.natAbs_mul];exact Nat.mul_le_mul (by omega) (by omega)
 have h2:((A.natAbs*B.natAbs:Nat):Int)=A*B:=by rw [Int.natCast_mul,Int.natAbs_of_nonneg (by omega),Int.natAbs_of_nonneg (by omega)]
 omega
theorem Gy {p q:List (Int×Int)} {f g h:Int->Int} (hp:aV p f) (hq:aV q g) (hs: ∀e,f e≠0-> -1000<=e/\e<=1000) (ht: ∀e,g e≠0-> -1000<=e/\e<=1000)
  (hf: ∀e,-1099511627776<=f e/\f e<=1099511627776) (hg: ∀e,-1099511627776<=g e/\g e<=1099511627776) (hh: ∀e,cvL p g e=h e) (hb: ∀e,-1125899906842624<=h e/\h e<=1125899906842624) (hl:p.length*q.length<=100000):
  ∃r,aV r h/\Fn Tryz.prog 67 [rpA p,rpA q] (rpA r):=by
 have lp:=hp.len hs;have lq:=hq.len ht;have bp: ∀t∈p,-1099511627776<=t.2/\t.2<=1099511627776:=fun t h=>by rw [(hp.mem h).1];exact hf _
 have bq: ∀t∈q,-1099511627776<=t.2/\t.2<=1099511627776:=fun t h=>by rw [(hq.mem h).1];exact hg _
 have ep: ∀t∈p,-1000<=t.1/\t.1<=1000:=fun t h=>hs _ (hp.mem h).2;have eq: ∀t∈q,-1000<=t.1/\t.1<=1000:=fun t h=>ht _ (hq.mem h).2;have bz: ∀t∈p,∀u∈q,-1208925819614629174706176<=t.2*u.2/\t.2*u.2<=1208925819614629174706176:=fun t h1 u h2=>Vv (A:=1099511627776) (B:=1099511627776) (bp t h1) (bq u h2)
 have ez: ∀t∈p,∀u∈q,-1048576<=t.1+u.1/\t.1+u.1<=1048576:=fun t h1 u h2=>by have:=ep t h1;have:=eq u h2;omega
 have s1: ∀i,QS (nL [] (p.take i) q) _ _ 1208925819614629174706176 1048576:=fun i=>FW q (p.take i) QS.nil (fun t h=>bz t (vi h)) (fun t h=>ez t (vi h));have yN:=FW q p QS.nil bz ez;have s2: ∀i k,∀t∈p,QS (sj (nL [] (p.take i) q) t (q.take k)) _ _ 1208925819614629174706176 1048576:=fun i k t ht=>FX t (q.take k) (s1 i) (fun u h=>bz t ht u (vi h)) (fun u h=>ez t ht u (vi h))
 have LK:cfL q=g:=funext hq.cf;have dY:QS (nL [] p q) h _ _ _:=yN.congr fun x=>by rw [LK,hh];omega
 refine ⟨fE (nL [] p q),dY.A3,?_⟩;have hC:=dY.CM (by omega) hb;refine Fn.ai [.cell 4 49] Tryz.func67 rfl rfl (by decide) (by simp [Tryz.ntmps67]) ?_;rw [Tryz.ntmps67]
 repeat' (first|omega|(try apply ag);simp only [go_sem,sevalprocAttr]|apply ae<;>(intro h_;(try simp only [h_]);revert h_)|apply And.intro|with_reducible intro h_|trivial|simp only [go_sem,ah];omega)
 refine aR.intro (fun n fr H=> ∃i:Nat,i<=p.length/\n=p.length-i/\fr=[(7,I i),(6,qsA (nL [] (p.take i) q)),(5,qeA (nL [] (p.take i) q)),(4, .ptr 2 0),(3, .ptr 1 0),(2, .ptr 0 0)]/\H=[(2, .cells 49 (.lst [.nils, .bool false])),(1, .cells 49 (.lst [tmA q, .bool false])),(0, .cells 49 (.lst [tmA p, .bool false]))]) ?_ ?_
 ·refine ⟨_,_,_,?_,0,by omega,rfl,rfl,rfl⟩;refine Wk.trans (Wk.sub (fr':=[(7,I 0),(6, .nils),(5, .nils),(4, .ptr 2 0),(3, .ptr 1 0),(2, .ptr 0 0)]) ?_ ?_) (Wk.le (.cons (az.refl _) (.cons (az.nils (by decide) rfl) (.cons (az.nils (by decide) rfl) (iY.refl _)))))<;>(simp only [go_sem,sevalprocAttr,yaj])
 rintro n fr H ⟨i,hi,rfl,rfl,rfl⟩;by_cases bH:i<p.length
 ·have bi:decide ((i:Int)<p.length)=true:=by simp;omega
  have g0:=kJ p i bH;have g1:=nP p i bH;have hm:=iO bH;have mY:=ya9 p;have hT:=Vw bH [] q;have Yg:=s2 i;generalize p.getD i (0,0)=t at*;obtain ⟨te,tz⟩:=t;have bt:=bp _ hm;have et:=ep _ hm;simp only at bt et
  repeat' (first|omega|(first|apply ag|(refine aj.intro (id:=11) uW uV (by decide+kernel) mixed ?_)|skip);simp only [go_sem,sevalprocAttr,bi,mY,↓reduceIte,reduceCtorEq,uW,uV]|apply ae<;>(intro h_;(try simp only [h_]);revert h_)|apply And.intro|with_reducible intro h_|trivial|simp only [go_sem,ah];omega)
  refine aR.intro (fun n fr H=> ∃k:Nat,k<=q.length/\n=q.length-k/\fr=[(8,I k),(7,I i),(6,qsA (sj (nL [] (p.take i) q) (te,tz) (q.take k))),(5,qeA (sj (nL [] (p.take i) q) (te,tz) (q.take k))),(4, .ptr 2 0),(3, .ptr 1 0),(2, .ptr 0 0)]/\H=[(2, .cells 49 (.lst [.nils, .bool false])),(1, .cells 49 (.lst [tmA q, .bool false])),(0, .cells 49 (.lst [tmA p, .bool false]))]) ?_ ?_
  ·refine ⟨_,_,_,?_,0,by omega,rfl,rfl,rfl⟩;have e0:sj (nL [] (p.take i) q) (te,tz) (q.take 0)=nL [] (p.take i) q:=rfl;rw [e0];refine Wk.sub ?_ ?_<;>(simp only [go_sem,sevalprocAttr,yaj,ja])
  rintro n fr H ⟨k,hk,rfl,rfl,rfl⟩;by_cases bM:k<q.length
  ·have bk:decide ((k:Int)<q.length)=true:=by simp;omega
   have k0:=kJ q k bM;have k1:=nP q k bM;have km:=iO bM;have oF:=ya9 q;have Tu:=Vx bM (nL [] (p.take i) q) (te,tz);have E2:=Yg k _ hm;have jQ:=bz _ hm _ km;have mU:=bq _ km;generalize q.getD k (0,0)=u at*;obtain ⟨ue,uz⟩:=u;have eu:=eq _ km;simp only at eu mU jQ Tu;have iw:(p.take i).length*q.length+(q.take k).length<=100000:=by
    have a1:(p.take i).length=i:=by rw [List.length_take];omega
    have a2:(q.take k).length=k:=by rw [List.length_take];omega
    have a3:(i+1)*q.length<=p.length*q.length:=Nat.mul_le_mul_right _ bH;rw [Nat.succ_mul] at a3;rw [a1,a2];omega
   have cE:=E2.ok (by omega) (by decide);have hP:=Ii tz uz (by omega) (by omega);have lW:=Gb (sj (nL [] (p.take i) q) (te,tz) (q.take k)) (te+ue) (tz*uz) cE.1 (by omega) cE.2;rw [←Tu] at lW
   repeat' (first|omega|(first|apply ag|(refine aj.intro (id:=11) uW uV (by decide+kernel) mixed ?_)|skip);simp only [go_sem,sevalprocAttr,bi,bk,g0,g1,k0,k1,mY,oF,↓reduceIte,reduceCtorEq,uW,uV]|apply ae<;>(intro h_;(try simp only [h_]);revert h_)|apply And.intro|with_reducible intro h_|trivial|simp only [go_sem,ah];omega)
   all_goals first|omega|skip
   refine ⟨bI.fn rfl hP ?_⟩;simp only [go_sem,sevalprocAttr,bi,bk,g0,g1,k0,k1,mY,oF,ja,yaj];refine ⟨bI.fn rfl lW ?_⟩;simp only [go_sem,sevalprocAttr,bi,bk,g0,g1,k0,k1,mY,oF,ja,yaj]
   repeat' (first|omega|(first|apply ag|(refine aj.intro (id:=11) uW uV (by decide+kernel) mixed ?_)|skip);simp only [go_sem,sevalprocAttr,bi,bk,g0,g1,k0,k1,mY,oF,↓reduceIte,reduceCtorEq,uW,uV]|apply ae<;>(intro h_;(try simp only [h_]);revert h_)|apply And.intro|with_reducible intro h_|trivial|simp only [go_sem,ah];omega)
   refine ⟨_,_,_,?_,?_,⟨k+1,by omega,rfl,rfl,rfl⟩⟩
   ·omega
   ·refine Wk.sub ?_ ?_<;>(simp only [go_sem,sevalprocAttr,yaj,ja])
  ·obtain rfl:k=q.length:=by omega
   have bk:decide ((q.length:Int)<q.length)=false:=by simp
   rw [List.take_length,←hT]
   repeat' (first|omega|(try apply ag);simp only [go_sem,sevalprocAttr,bk]|apply ae<;>(intro h_;(try simp only [h_]);revert h_)|apply And.intro|with_reducible intro h_|trivial|simp only [go_sem,ah];omega)
   refine ⟨_,_,_,?_,?_,⟨i+1,by omega,rfl,rfl,rfl⟩⟩
   ·omega
   ·refine Wk.sub ?_ ?_<;>(simp only [go_sem,sevalprocAttr,yaj,ja])
 ·obtain rfl:i=p.length:=by omega
  have bi:decide ((p.length:Int)<p.length)=false:=by simp
  rw [List.take_length]
  repeat' (first|omega|(first|apply ag|(refine aj.intro (id:=11) uW uV (by decide+kernel) mixed ?_)|skip);simp only [go_sem,sevalprocAttr,bi,↓reduceIte,reduceCtorEq,uW,uV]|apply ae<;>(intro h_;(try simp only [h_]);revert h_)|apply And.intro|with_reducible intro h_|trivial|simp only [go_sem,ah];omega)
  refine ⟨au.fn rfl hC ?_⟩
  repeat' (first|omega|(try apply ag);simp only [go_sem,sevalprocAttr]|apply ae<;>(intro h_;(try simp only [h_]);revert h_)|apply And.intro|with_reducible intro h_|trivial|simp only [go_sem,ah];omega)
  all_goals exact az.refl _
theorem Fn.args {P:Program} {f:Nat} {xs ys:List AV} {r:AV} (h:Fn P f ys r) (hl:sv xs ys):Fn P f xs r:=
 ⟨h.1,fun w Mx vs hm hlen hv=>h.2 w Mx vs hm (hlen.trans hl.len) fun i v y hi hy=>by
  obtain ⟨x,hx⟩: ∃x,xs[i]?=some x:=by
   have:i<ys.length:=(List.getElem?_eq_some_iff.1 hy).1
   exact ⟨_,zzI (by rw [hl.len];exact this)⟩
  exact (hl.get i x y hx hy).out _ _ _ _ v (hv i v x hi hx)⟩
def RX:List (List Nat):=[[45,46,47,48,49,50,51,52,53],[45,46,47,48,49,50,51,52,53],[43,44,46,48,49,50,51],[43,44,45,48,49,50,51],[43,44,48,49,50,51],[43,44,45,46,47,49],[43,44,45,46,47,48],[43,44,45,46,47],[43,44,45,46,47],[43,44],[43,44],[],[],[]]
def RW:List (List Nat):=[[],[],[0,1],[0,1,2],[0,1],[0,1,2,3,4],[0,1,2,3,4,5],[0,1,2,3,4],[0,1,2,3,4],[0,1],[0,1],[],[],[]]
theorem NW:Fn Tryz.prog 69 [I 0, .nils] (rpA []):=
 (DN 0 (by decide) [] (fun x h=>by cases h) (by decide)).args (.cons (az.refl _) (.cons (az.nils (by decide) rfl) .nil))
theorem xJ.XW {P:Program} {f:Nat} {args:List AV} {n t id:Nat} {l:List AV} (h:sw P f args (.agg [.sl 2 id 0 n, .bool false]) [(id, .cells t (.lst l))]) (hn:l.length=n*2) (hI: ∀x∈l,∃k,x=I k):xJ P f args (.agg [.ro 2 n (.lst l), .bool false]):=by
 refine ⟨h.1,fun w Mx vs h1 h2 h3=>(h.2 w Mx vs h1 h2 h3).mono ?_⟩;rintro e w' ⟨v,ρ',rfl,hs,hv⟩;refine ⟨v,rfl,hs.below,?_⟩;have hr:=hs.objs id _ (show hget [(id,AObj.cells t (.lst l))] id=some (.cells t (.lst l)) by simp [hget]);have ho:=hs.own id _ (show hget [(id,AObj.cells t (.lst l))] id=some (.cells t (.lst l)) by simp [hget]) rfl;have ax:=hr.lt rfl;obtain ⟨g1,arr,g2,g3,g4⟩:=hr
 obtain ⟨x,k1,k2⟩:=H3 (My:=fun b=>b<w.heap.size) (ρ0:=ρ0) (c:= .lst l) (c':= .lst l) g1 g2 g3 rfl fun j hj=>by
  obtain ⟨u,q1,q2⟩:=g4 j hj;refine ⟨u,q1,?_⟩;have b9:j<l.length:=by simpa [Cs.len] using hj
  obtain ⟨k,hk⟩:=hI l[j] (List.getElem_mem b9);have e:(Cs.lst l).get j=I k:=by simp only [Cs.get,zzB,zzI b9,Option.getD_some,hk]
  rw [e] at q2⊢;cases q2;exact .int _ _
 cases hv with
 |agg vs xs hl hx=>
  refine .agg vs _ hl fun i v' x' hi ik=>?_
  match i,ik with
  |0,ik=>
   cases ik;have hv0:=hx 0 v' _ hi rfl;cases hv0 with
   |sl _ _ _ _ cap hd hc aK t' ad ha hb iH=>
    refine .ro 2 n (.lst l) (some ad) cap x (by simp [Cs.len];omega) hc (by decide) (fun h0=>⟨ad,rfl,?_⟩) fun j hj=>k2 j (by simpa [Cs.len] using hj);have e:=ha (by omega);rw [show (ρ' id).add 0=ρ' id from rfl] at e;subst e;exact ⟨ax,fun hb=>by omega,fun j hj=>k1 j (by simpa [Cs.len] using hj)⟩
  |1,ik=>
   cases ik;have nX:=hx 1 v' _ hi rfl;cases nX;exact .bool _
  |i+2,ik=>cases ik
theorem OU (lo k:Int) (iv: -100000<=lo/\lo<=100000) (ld:k≠0) (hk: -1125899906842624<=k/\k<=1125899906842624):xJ Tryz.prog 69 [I lo,roI [k]] (rpA [(lo,k)]):=by
 have h:sw Tryz.prog 69 [I lo,roI [k]] (.agg [.sl 2 13 0 1, .bool false]) [(13, .cells 98 (.lst [I lo,I k]))]:=by
  have b0:(k==0)=false:=by rw [beq_eq_false_iff_ne];exact ld
  have c1:decide (k< -1125899906842624)=false:=by rw [decide_eq_false_iff_not];omega
  have c2:decide (1125899906842624<k)=false:=by rw [decide_eq_false_iff_not];omega
  have c3:decide (lo< -1048576)=false:=by rw [decide_eq_false_iff_not];omega
  have c4:decide (1048576<lo)=false:=by rw [decide_eq_false_iff_not];omega
  have ez:lo+0=lo:=by omega
  refine sw.intro [.cell 4 49] Tryz.func69 rfl rfl (by decide) (by simp [Tryz.ntmps69]) ?_;rw [Tryz.ntmps69]
  repeat' (first|omega|(try apply ag);simp only [go_sem,sevalprocAttr]|apply ae<;>(intro h_;(try simp only [h_]);revert h_)|apply And.intro|with_reducible intro h_|trivial|simp only [go_sem,ah];omega)
  refine aR.intro (fun n fr H=>(n=1/\fr=[(6,I 0),(5, .ptr 1 0),(4, .ptr 0 0),(1,roI [k]),(0,I lo)]/\H=[(1, .cells 49 (.lst [.nils, .bool false])),(0, .cells 49 (.lst [.nils, .bool false]))])\/(n=0/\fr=[(6,I 1),(5, .ptr 1 0),(4, .ptr 0 0),(1,roI [k]),(0,I lo)]/\H=[(13, .cells 98 (.lst [I lo,I k])),(1, .cells 49 (.lst [.sl 2 13 0 1, .bool false])),(0, .cells 49 (.lst [.nils, .bool false]))])) ?_ ?_
  ·refine ⟨_,_,_,?_, .inl ⟨rfl,rfl,rfl⟩⟩;refine Wk.sub ?_ ?_<;>simp only [go_sem,sevalprocAttr]
  rintro n fr H (⟨rfl,rfl,rfl⟩|⟨rfl,rfl,rfl⟩)
  ·repeat' (first|omega|(first|apply ag|(refine aj.intro (id:=8) RX RW (by decide+kernel) mixed ?_)|skip);simp only [go_sem,sevalprocAttr,b0,c1,c2,c3,c4,ez,↓reduceIte,reduceCtorEq,RX,RW]|apply ae<;>(intro h_;(try simp only [h_]);revert h_)|apply And.intro|with_reducible intro h_|trivial|simp only [go_sem,ah];omega)
   all_goals (refine ⟨_,_,_,?_,?_, .inr ⟨rfl,rfl,rfl⟩⟩)
   all_goals first|omega|skip
   all_goals (refine Wk.sub ?_ ?_<;>(simp only [go_sem,sevalprocAttr,b0]))
  ·repeat' (first|omega|(try apply ag);simp only [go_sem,sevalprocAttr,b0]|apply ae<;>(intro h_;(try simp only [h_]);revert h_)|apply And.intro|with_reducible intro h_|trivial|simp only [go_sem,ah];omega)
 have h2:=xJ.XW h rfl fun x hx=>by
  simp only [List.mem_cons,zzH,or_false] at hx;rcases hx with rfl|rfl<;>exact ⟨_,rfl⟩
 exact h2
theorem Vu (lo k:Int) (iv: -100000<=lo/\lo<=100000) (hk:0<k/\k<=1125899906842624):xJ Tryz.prog 69 [I lo,roI [k]] (rpA [(lo,k)]):=OU lo k iv (by omega) (by omega)
end Go.Proofs.YtmdjdekgakidhaaGreatDoor
namespace Go.Proofs.YtmdjdekgakidhaaGreatDoor
set_option maxRecDepth 100000
def lO (m:List Int) (n L K b c:Nat):Int:=sm (fun k=>if cN m n L k=c/\bY k n=b then 1 else 0) K
def gu (m:List Int) (n L b c:Nat) (e:Int):Int:=lO m n L (2^n) b c*dpw (c-1) (e-((n:Int)-2*b))
def qu (m:List Int) (n L b j:Nat) (e:Int):Int:=sm (fun i=>gu m n L b (i+1) e) j
def mD (m:List Int) (n L b j:Nat) (e:Int):Int:=sm (fun x=>qu m n L x (2*n+L+1) e) b+qu m n L b j e
theorem IY (m:List Int) (n L b j:Nat) (e:Int):mD m n L b (j+1) e=mD m n L b j e+gu m n L b (j+1) e:=by
 unfold mD qu;simp only [sm];omega
theorem Kx (m:List Int) (n L b:Nat) (e:Int):mD m n L (b+1) 0 e=mD m n L b (2*n+L+1) e:=by
 unfold mD;simp only [sm,qu];omega
theorem NV {m:List Int} {n L:Nat} (hp:bD m n) (e:Int):mD m n L (n+1) 0 e=cu m n L 1 e:=by
 have h0:mD m n L (n+1) 0 e=sm (fun b=>sm (fun j=>sm (fun k=>if cN m n L k=j+1/\bY k n=b then dpw j (e-((n:Int)-2*b)) else 0) (2^n)) (2*n+L+1)) (n+1):=by
  unfold mD;rw [show qu m n L (n+1) 0 e=0 from rfl,Int.add_zero];refine kK fun b _=>kK fun j _=>?_;unfold gu lO;rw [Int.mul_comm,←Sq];refine kK fun k _=>?_
  split
  ·rw [Nat.add_sub_cancel,Int.mul_one]
  ·rw [Int.mul_zero]
 rw [h0];have h1:sm (fun b=>sm (fun j=>sm (fun k=>if cN m n L k=j+1/\bY k n=b then dpw j (e-((n:Int)-2*b)) else 0) (2^n)) (2*n+L+1)) (n+1)=sm (fun b=>sm (fun k=>sm (fun j=>if cN m n L k=j+1/\bY k n=b then dpw j (e-((n:Int)-2*b)) else 0) (2*n+L+1)) (2^n)) (n+1):=kK fun b _=>GA _ _ _;rw [h1,GA];unfold cu rq;refine kK fun k _=>?_;have hb:=Ac k n;have hc:=zo hp (L:=L) k
 rw [Ds (a:=bY k n) (by omega) fun x _ av=>by
  rw [kK (g:=fun _=>0) fun j _=>if_neg fun h=>av h.2.symm,qj];omega]
 by_cases h:1<=cN m n L k
 ·rw [if_pos h,Ds (a:=cN m n L k-1) (by omega) fun x _ av=>if_neg fun g=>by omega];rw [if_pos ⟨by omega,rfl⟩];rfl
 ·rw [if_neg h,kK (g:=fun _=>0) fun j _=>if_neg fun g=>by omega,qj];omega
theorem Gx (m:List Int) (n L b c:Nat): ∀K,0<=lO m n L K b c/\lO m n L K b c<=K
 |0=>by simp [lO,sm]
 |K+1=>by
  have:=Gx m n L b c K
  unfold lO at*;simp only [sm]
  split<;>omega
theorem FV {n N:Nat} (h:n<=N):2^n<=2^N:=Nat.pow_le_pow_right (by omega) h
theorem Vt {a b A B:Int} (ha: -A<=a/\a<=A) (hb: -B<=b/\b<=B): -(A*B)<=a*b/\a*b<=A*B:=by
 have h:(a*b).natAbs<=A.natAbs*B.natAbs:=by rw [Int.natAbs_mul];exact Nat.mul_le_mul (by omega) (by omega)
 have h2:((A.natAbs*B.natAbs:Nat):Int)=A*B:=by rw [Int.natCast_mul,Int.natAbs_of_nonneg (by omega),Int.natAbs_of_nonneg (by omega)]
 omega
theorem C2 {j:Nat} (hj:j<=28) (e:Int): -268435456<=dpw j e/\dpw j e<=268435456:=by
 have h1:=zP j e;have h2:((2^j:Nat):Int)<=268435456:=by
  have:=FV hj
  rw [show (2:Nat)^28=268435456 by decide] at this;omega
 omega
theorem Q8 {m:List Int} {n L b c:Nat} (hn:n<=9):0<=lO m n L (2^n) b c/\lO m n L (2^n) b c<=512:=by
 have h1:=Gx m n L b c (2^n);have h2:=FV hn;rw [show (2:Nat)^9=512 by decide] at h2;omega
theorem RV {m:List Int} {n L b c:Nat} (hn:n<=9) (hc:c<=29) (e:Int): -137438953472<=gu m n L b c e/\gu m n L b c e<=137438953472:=by
 have h1:=Q8 (m:=m) (L:=L) (b:=b) (c:=c) hn;exact Vt (A:=512) (B:=268435456) (by omega) (C2 (by omega) _)
theorem RU {m:List Int} {n L b c:Nat} (hn:n<=9) (hb:b<=n) (hc:c<=29) {e:Int} (h:gu m n L b c e≠0): -100<=e/\e<=100:=by
 have h1:dpw (c-1) (e-((n:Int)-2*b))≠0:=fun g=>h (by unfold gu;rw [g,Int.mul_zero])
 have:=qi _ _ h1
 omega
theorem Q7 {m:List Int} {n L b j:Nat} (hn:n<=9) (hj:j<=29) (e:Int): -3985729650688<=qu m n L b j e/\qu m n L b j e<=3985729650688:=by
 have:=Dp (f:=fun i=>gu m n L b (i+1) e) (b:=137438953472) (n:=j) fun k hk=>RV hn (by omega) e
 unfold qu;omega
theorem Q6 {m:List Int} {n L b j:Nat} (hn:n<=9) (hb:b<=n) (hj:j<=29) {e:Int} (h:qu m n L b j e≠0): -100<=e/\e<=100:=by
 obtain ⟨k,hk,h1⟩:=xK h;exact RU hn hb (by omega) h1
theorem A2 {m:List Int} {n L b j:Nat} (hn:n<=9) (hL:L<=10) (hb:b<=n+1) (hj:j<=29) (e:Int): -562949953421312<=mD m n L b j e/\mD m n L b j e<=562949953421312:=by
 have h1:=Dp (f:=fun x=>qu m n L x (2*n+L+1) e) (b:=3985729650688) (n:=b) fun k hk=>Q7 hn (by omega) e;have h2:=Q7 (m:=m) (L:=L) (b:=b) (j:=j) hn hj e;unfold mD;omega
theorem A1 {m:List Int} {n L b j:Nat} (hn:n<=9) (hL:L<=10) (hb:b<=n\/b=n+1/\j=0) (hj:j<=29) {e:Int} (h:mD m n L b j e≠0): -100<=e/\e<=100:=by
 by_cases h1:sm (fun x=>qu m n L x (2*n+L+1) e) b=0
 ·have h2:qu m n L b j e≠0:=fun g=>h (by unfold mD;rw [h1,g];rfl);rcases hb with hb|⟨rfl,rfl⟩
  ·exact Q6 hn hb hj h2
  ·exact absurd rfl h2
 ·obtain ⟨x,hx,h3⟩:=xK h1;exact Q6 hn (by omega) (by omega) h3
def dT (m:List Int) (n L K:Nat):List Int:=(List.range ((n+1)*(2*n+L+2))).map fun i=>sm (fun k=>if bY k n*(2*n+L+2)+cN m n L k=i then 1 else 0) K
theorem OT (m:List Int) (n L K:Nat):(dT m n L K).length=(n+1)*(2*n+L+2):=by simp [dT]
theorem IX (m:List Int) (n L:Nat):dT m n L 0=List.replicate ((n+1)*(2*n+L+2)) 0:=by
 apply List.ext_getElem?;intro i;by_cases h:i<(n+1)*(2*n+L+2)<;>simp [dT,h,sm]
theorem NU (m:List Int) (n L K i:Nat) (h:i<(n+1)*(2*n+L+2)):(dT m n L K).getD i 0=sm (fun k=>if bY k n*(2*n+L+2)+cN m n L k=i then 1 else 0) K:=by
 simp [dT,zzB,h]
theorem tL {n b c W:Nat} (hb:b<=n) (hc:c<W):b*W+c<(n+1)*W:=by
 have:=Nat.mul_le_mul_right W (show b+1<=n+1 by omega)
 rw [Nat.succ_mul] at this;omega
theorem Vs {m:List Int} {n L:Nat} (hp:bD m n) (K:Nat):(dT m n L K).set (bY K n*(2*n+L+2)+cN m n L K) ((dT m n L K).getD (bY K n*(2*n+L+2)+cN m n L K) 0+1)=dT m n L (K+1):=by
 have hb:=Ac K n;have hc:=zo hp (L:=L) K;have hi:=tL (W:=2*n+L+2) hb (show cN m n L K<2*n+L+2 by omega);rw [NU _ _ _ _ _ hi];generalize hI:bY K n*(2*n+L+2)+cN m n L K=I0 at*;apply List.ext_getElem?;intro i;rw [List.getElem?_set,OT];by_cases e:I0=i
 ·subst e;simp [dT,hi,sm,hI]
 ·rw [if_neg e];by_cases bH:i<(n+1)*(2*n+L+2)
  ·simp only [dT,List.getElem?_map,List.getElem?_range bH,Option.map_some,sm,hI];rw [if_neg e,Int.add_zero]
  ·simp [dT,bH]
theorem OS {m:List Int} {n L:Nat} (hp:bD m n) (K:Nat) {b c:Nat} (hb:b<=n) (hc:c<=2*n+L+1):(dT m n L K).getD (b*(2*n+L+2)+c) 0=lO m n L K b c:=by
 rw [NU _ _ _ _ _ (tL hb (by omega))];unfold lO;refine kK fun k _=>?_;have gb:=zo hp (L:=L) k;by_cases h:cN m n L k=c/\bY k n=b
 ·rw [if_pos h,if_pos (by rw [h.1,h.2])]
 ·rw [if_neg h,if_neg fun g=>h ?_];have h1:(bY k n*(2*n+L+2)+cN m n L k)/(2*n+L+2)=(b*(2*n+L+2)+c)/(2*n+L+2):=by rw [g]
  rw [Nat.mul_comm,Nat.mul_comm b,Nat.mul_add_div (by omega),Nat.mul_add_div (by omega),Nat.div_eq_of_lt (show cN m n L k<2*n+L+2 by omega),Nat.div_eq_of_lt (show c<2*n+L+2 by omega)] at h1;have h2:bY k n=b:=by omega
  rw [h2] at g;exact ⟨by omega,h2⟩
open Go Go.RowKit
set_option maxHeartbeats 8000000
theorem yc:aV [(0,1)] (dpw 0):=⟨⟨by decide,by decide⟩,fun x=>by
 simp only [cfL,dpw,Int.add_zero];by_cases h:x=0
 ·rw [if_pos h,if_pos h.symm]
 ·rw [if_neg h,if_neg fun g=>h g.symm]⟩
theorem Vr (j:Nat) (hj:j<=28):Fn Tryz.prog 108 [I j] (rpA (bS (dpw j))):=by
 have hD:Fn Tryz.prog 69 [I (-2), .ro 1 5 (.ints [-1,0,0,0,-1])] (rpA [(-2,-1),(2,-1)]):=DN (-2) (by decide) [-1,0,0,0,-1] (by decide) (by decide);have h1:Fn Tryz.prog 69 [I 0, .ro 1 1 (.ints [1])] (rpA [(0,1)]):=DN 0 (by decide) [1] (by decide) (by decide);have hs: ∀i,i<=28-> ∀e,dpw i e≠0-> -1000<=e/\e<=1000:=fun i hi e he=>by have:=qi i e he;omega
 have hd:aV [(-2,-1),(2,-1)] (cfL [(-2,-1),(2,-1)]):=⟨CL,fun _=>rfl⟩;refine Fn.ai [.cell 2 49] Tryz.func108 rfl rfl (by decide) (by simp [Tryz.ntmps108]) ?_;rw [Tryz.ntmps108]
 repeat' (first|omega|(try apply ag);simp only [go_sem,sevalprocAttr]|apply ae<;>(intro h_;(try simp only [h_]);revert h_)|apply And.intro|with_reducible intro h_|trivial|simp only [go_sem,ah];omega)
 refine ⟨au.jU [1] rfl (by simp only [go_sem,sevalprocAttr]) (by simp only [go_sem,sevalprocAttr]) (by simp only [go_sem,sevalprocAttr]) (by simp only [go_sem,sevalprocAttr]) rfl rfl rfl (au.fn rfl hD ?_)⟩
 repeat' (first|omega|(try apply ag);simp only [go_sem,sevalprocAttr]|apply ae<;>(intro h_;(try simp only [h_]);revert h_)|apply And.intro|with_reducible intro h_|trivial|simp only [go_sem,ah];omega)
 refine ⟨au.jU [3] rfl (by simp only [go_sem,sevalprocAttr]) (by simp only [go_sem,sevalprocAttr]) (by simp only [go_sem,sevalprocAttr]) (by simp only [go_sem,sevalprocAttr]) rfl rfl rfl (au.fn rfl h1 ?_)⟩
 repeat' (first|omega|(try apply ag);simp only [go_sem,sevalprocAttr]|apply ae<;>(intro h_;(try simp only [h_]);revert h_)|apply And.intro|with_reducible intro h_|trivial|simp only [go_sem,ah];omega)
 refine aR.intro (fun n fr H=> ∃(i:Nat) (r:List (Int×Int)),i<=j/\aV r (dpw i)/\n=j-i/\fr=[(5,I i),(4, .ptr 4 0),(3, .ptr 2 0),(2, .ptr 0 0),(0,I j)]/\H=[(4, .cells 49 (.lst [tmA r, .bool false])),(2, .cells 49 (.lst [tmA [(-2,-1),(2,-1)], .bool false])),(0, .cells 49 (.lst [.nils, .bool false]))]) ?_ ?_
 ·refine ⟨_,_,_,?_,0,_,by omega,yc,rfl,rfl,rfl⟩;refine Wk.sub ?_ ?_<;>(simp only [go_sem,sevalprocAttr,yaj])
 rintro n fr H ⟨i,r,hi,hr,rfl,rfl,rfl⟩;by_cases fG:i<j
 ·have bi:decide ((i:Int)<j)=true:=by simp;omega
  have hb:=fun e=>C2 (j:=i) (by omega) e;have kx:=fun e=>C2 (j:=i+1) (by omega) e;obtain ⟨r',iH,hM⟩:=Gy hr hd (hs i (by omega)) (fun e he=>by
   obtain ⟨t,ht,rfl⟩:=xZ he;simp only [List.mem_cons,zzH,or_false] at ht;rcases ht with rfl|rfl<;>decide) (fun e=>by have:=hb e;omega) (fun e=>by
   simp only [cfL]
   split<;>split<;>omega) (h:=dpw (i+1)) (fun e=>by rw [Rb,show cfL r=dpw i from funext hr.cf];rfl) (fun e=>by have:=kx e;omega) (by
    have:=hr.len (hs i (by omega))
    simp only [zzG,List.length_nil];omega)
  repeat' (first|omega|(try apply ag);simp only [go_sem,sevalprocAttr,bi]|apply ae<;>(intro h_;(try simp only [h_]);revert h_)|apply And.intro|with_reducible intro h_|trivial|simp only [go_sem,ah];omega)
  refine ⟨au.fn rfl hM ?_⟩
  repeat' (first|omega|(try apply ag);simp only [go_sem,sevalprocAttr,bi]|apply ae<;>(intro h_;(try simp only [h_]);revert h_)|apply And.intro|with_reducible intro h_|trivial|simp only [go_sem,ah];omega)
  refine ⟨_,_,_,?_,?_,i+1,r',by omega,iH,rfl,rfl,rfl⟩
  ·omega
  ·refine Wk.sub ?_ ?_<;>(simp only [go_sem,sevalprocAttr,yaj])
 ·obtain rfl:i=j:=by omega
  have bi:decide ((i:Int)<i)=false:=by simp
  rw [←hr.eq (hs i hj)]
  repeat' (first|omega|(try apply ag);simp only [go_sem,sevalprocAttr,bi]|apply ae<;>(intro h_;(try simp only [h_]);revert h_)|apply And.intro|with_reducible intro h_|trivial|simp only [go_sem,ah];omega)
  all_goals exact az.refl _
def RT:Tr:= .node [(0, .node [(1, .node [(2, .node [(3,trD [4,5,6]),(4,trD [3,5,6])]),(3, .node [(2,trD [4,5,6]),(4,trD [2,5,6])]),(4, .node [(2,trD [3,5,6]),(3,trD [2,5,6])])]),(3, .node [(1, .node [(2,trD [4,5,6]),(4,trD [2,5,6])]),(4,trD [1,2,5,6])]),(4, .node [(1, .node [(2,trD [3,5,6]),(3,trD [2,5,6])]),(3,trD [1,2,5,6])])]),(1, .node [(0, .node [(2, .node [(3,trD [4,5,6]),(4,trD [3,5,6])]),(3, .node [(2,trD [4,5,6]),(4,trD [2,5,6])]),(4, .node [(2,trD [3,5,6]),(3,trD [2,5,6])])]),(3, .node [(0, .node [(2,trD [4,5,6]),(4,trD [2,5,6])]),(4,trD [0,2,5,6])]),(4, .node [(0, .node [(2,trD [3,5,6]),(3,trD [2,5,6])]),(3,trD [0,2,5,6])])]),(3, .node [(0, .node [(1, .node [(2,trD [4,5,6]),(4,trD [2,5,6])]),(4,trD [1,2,5,6])]),(1, .node [(0, .node [(2,trD [4,5,6]),(4,trD [2,5,6])]),(4,trD [0,2,5,6])]),(4, .node [(0,trD [1,2,5,6]),(1,trD [0,2,5,6])])]),(4, .node [(0, .node [(1, .node [(2,trD [3,5,6]),(3,trD [2,5,6])]),(3,trD [1,2,5,6])]),(1, .node [(0, .node [(2,trD [3,5,6]),(3,trD [2,5,6])]),(3,trD [0,2,5,6])]),(3, .node [(0,trD [1,2,5,6]),(1,trD [0,2,5,6])])])]
theorem vh (s m:List Int) (L:Int):Fn Tryz.prog 33 [dgA s m L] (.bool (cX s m L)):=by
 refine Fn.intro [.tmp 2] Tryz.func33 rfl rfl (by decide) (by simp [Tryz.ntmps33]) ?_;rw [Tryz.ntmps33]
 repeat' (first|omega|(try apply ag);simp only [go_sem,sevalprocAttr]|apply ae<;>(intro h_;(try simp only [h_]);revert h_)|apply And.intro|with_reducible intro h_|trivial|simp only [go_sem,ah];omega)
 ·exact oj (by omega)
 rotate_left
 ·exact oj (by omega)
 ·exact oj (by omega)
 ·exact oj (by omega)
 refine aR.intro (fun n fr H=> ∃k:Nat,k<=s.length/\n=s.length-k/\oU s k/\fr=[(34,I k),(33,I s.length),(32,roI s),(3,I s.length),(1, .ptr 0 0)]/\H=[(0, .cells 24 (.lst [roI s,roI m,I L]))]) ?_ ?_
 ·refine ⟨_,_,_,?_,0,by omega,rfl,(fun i hi=>by omega),rfl,rfl⟩;refine Wk.sub ?_ ?_<;>simp only [go_sem,sevalprocAttr]
 rintro n fr H ⟨k,hk,rfl,iG,rfl,rfl⟩
 repeat' (first|omega|(try apply ag);simp only [go_sem,sevalprocAttr]|apply ae<;>(intro h_;(try simp only [h_]);revert h_)|apply And.intro|with_reducible intro h_|trivial|simp only [go_sem,ah];omega)
 ·exact oj fun hv=>by have:=hv.2.2.2.2.1 k (by omega);omega
 ·refine ⟨_,_,_,?_,?_,⟨k+1,by omega,rfl,Ip iG (by omega),rfl,rfl⟩⟩
  ·omega
  ·refine Wk.sub ?_ ?_<;>simp only [go_sem,sevalprocAttr]
 ·refine ⟨_,_,_,?_,?_,⟨k+1,by omega,rfl,Ip iG (by omega),rfl,rfl⟩⟩
  ·omega
  ·refine Wk.sub ?_ ?_<;>simp only [go_sem,sevalprocAttr]
 obtain rfl:k=s.length:=by omega
 refine aR.intro (fun n fr H=> ∃k:Nat,k<=m.length/\n=m.length-k/\sH s m k/\fr=[(48,I k),(47,I m.length),(46,roI m),(3,I s.length),(1, .ptr 0 0)]/\H=[(0, .cells 24 (.lst [roI s,roI m,I L]))]) ?_ ?_
 ·refine ⟨_,_,_,?_,0,by omega,rfl,(fun i hi=>by omega),rfl,rfl⟩;refine Wk.sub ?_ ?_<;>simp only [go_sem,sevalprocAttr]
 rintro n fr H ⟨h,hh,rfl,tZ,rfl,rfl⟩
 repeat' (first|omega|(first|apply ag|(refine aj.intro (id:=15) [[76,78,79],[75,78,79],[78,79],[75,76,77,79],[75,76,77,78],[],[]] [[],[0],[],[0,1,2],[0,1,2,3],[],[]] (by decide+kernel) mixed ?_)|(refine aj.ay (id:=15) (RT) (by decide+kernel) mixed ?_)|skip);simp only [go_sem,sevalprocAttr,↓reduceIte,reduceCtorEq,RT]|apply ae<;>(intro h_;(try simp only [h_]);revert h_)|apply And.intro|with_reducible intro h_|trivial|simp only [go_sem,ah];omega)
 ·exact oj fun hv=>by have:=hv.2.2.2.2.2 h (by omega);omega
 ·have h4:m.getD h 0<4*s.length:=by assumption
  refine ⟨bI.fn rfl (Ij s m L h (by omega) (by omega) (by omega)) ?_⟩
  repeat' (first|omega|(try apply ag);simp only [go_sem,sevalprocAttr]|apply ae<;>(intro h_;(try simp only [h_]);revert h_)|apply And.intro|with_reducible intro h_|trivial|simp only [go_sem,ah];omega)
  refine ⟨bI.fn rfl (Ij s m L (m.getD h 0) (by assumption) h4 (by omega)) ?_⟩
  repeat' (first|omega|(try apply ag);simp only [go_sem,sevalprocAttr]|apply ae<;>(intro h_;(try simp only [h_]);revert h_)|apply And.intro|with_reducible intro h_|trivial|simp only [go_sem,ah];omega)
  ·exact oj fun hv=>by have:=hv.2.2.2.2.2 h (by omega);simp_all
  ·refine ⟨_,_,_,?_,?_,⟨h+1,by omega,rfl,QI tZ ⟨by assumption,h4,by assumption,by assumption,by assumption⟩,rfl,rfl⟩⟩
   ·omega
   ·refine Wk.sub ?_ ?_<;>simp only [go_sem,sevalprocAttr]
 ·exact oj fun hv=>by have:=hv.2.2.2.2.2 h (by omega);omega
 ·exact oj fun hv=>by have:=hv.2.2.2.2.2 h (by omega);omega
 ·exact oj fun hv=>by have:=hv.2.2.2.2.2 h (by omega);omega
 ·have hm:m.length=4*s.length:=by omega
  obtain rfl:h=4*s.length:=by omega
  refine ⟨au.fn rfl (UH s m L (by omega) ⟨hm,fun i hi=>⟨(tZ i hi).1,(tZ i hi).2.1⟩⟩) ?_⟩
  repeat' (first|omega|(try apply ag);simp only [go_sem,sevalprocAttr]|apply ae<;>(intro h_;(try simp only [h_]);revert h_)|apply And.intro|with_reducible intro h_|trivial|simp only [go_sem,ah];omega)
  exact XM ⟨by omega,hm,by assumption,by assumption,iG,tZ⟩
abbrev dgC (s m:List Int) (L:Int):Cs:= .lst [roI s,roI m,I L]
attribute [go_sem] dgC
theorem Em (h b:Int) (h0:0<=h) (h1:h<=100000):Fn Tryz.prog 137 [I h,I b] (I (fC h b)):=by
 have e1:h.tmod 4=h % 4:=Int.tmod_eq_emod_of_nonneg h0;have e2: -4<b.tmod 4/\b.tmod 4<4:=⟨Int.lt_tmod_of_pos b (by decide),Int.tmod_lt_of_pos b (by decide)⟩;have e4:(h % 4+b.tmod 4).tmod 4=if 0<=h % 4+b.tmod 4 then (h % 4+b.tmod 4)% 4 else h % 4+b.tmod 4:=by
  split
  ·exact Int.tmod_eq_emod_of_nonneg (by omega)
  ·rename_i hn
   have:(h % 4+b.tmod 4)= -(-(h % 4+b.tmod 4)):=by omega
   rw [this,Int.neg_tmod,Int.tmod_eq_emod_of_nonneg (by omega)];omega
 have e3:((h % 4+b.tmod 4).tmod 4+4).tmod 4=(h % 4+b.tmod 4+4)% 4:=by
  rw [e4,Int.tmod_eq_emod_of_nonneg (by split<;>omega)]
  split<;>omega
 unfold fC;refine Fn.intro [.tmp 4] Tryz.func137 rfl rfl (by decide) (by simp [Tryz.ntmps137]) ?_;rw [Tryz.ntmps137]
 repeat' (first|omega|(try apply ag);simp only [go_sem,sevalprocAttr]|apply ae<;>(intro h_;(try simp only [h_]);revert h_)|apply And.intro|with_reducible intro h_|trivial|simp only [go_sem,ah];omega)
 all_goals try simp only [e1,e3]
 all_goals try (rw [e4];split<;>omega)
 all_goals try omega
theorem DK (s:List Int) (h:Int) (h0:0<=h) (h1:h<4*s.length) (hs:s.length<=1000):Fn Tryz.prog 60 [roI s,I h] (.bool (aB s h)):=by
 have e1:h.tmod 4=h % 4:=Int.tmod_eq_emod_of_nonneg h0;have e2:h.tdiv 4=h/4:=Int.tdiv_eq_ediv_of_nonneg h0;refine Fn.intro [.tmp 4] Tryz.func60 rfl rfl (by decide) (by simp [Tryz.ntmps60]) ?_;rw [Tryz.ntmps60]
 repeat' (first|omega|(try apply ag);simp only [go_sem,sevalprocAttr]|apply ae<;>(intro h_;(try simp only [h_]);revert h_)|apply And.intro|with_reducible intro h_|trivial|simp only [go_sem,ah];omega)
 all_goals try simp only [e1,e2] at*
 all_goals try omega
 all_goals simp_all [aB]
theorem OR (m:List Int) (n h:Nat) (hn:n<=1000) (fv:m.length=4*n) (hm: ∀i,i<m.length->0<=m.getD i 0/\m.getD i 0<4*n) (hh:h<m.length):Fn Tryz.prog 100 [roI m,I h] (roI (ak (bJ m) m.length h)):=by
 have rz: ∀g:Nat,g<m.length->Fn Tryz.prog 137 [I (m.getD g 0),I (-1)] (I (bJ m g)):=fun g hg=>by
  have:=hm g hg
  exact Em _ _ (by omega) (by omega)
 have mS: ∀g:Nat,g<m.length->0<=bJ m g/\bJ m g<4*n:=fun g hg=>EJ (hm g hg).1 (hm g hg).2;have pI: ∀g:Nat,g<m.length->(g:Int)<m.length:=fun g hg=>by omega
 have LH:=rz h hh;refine Fn.intro [.tmp 4] Tryz.func100 rfl rfl (by decide) (by simp [Tryz.ntmps100]) ?_;rw [Tryz.ntmps100]
 repeat' (first|omega|(try apply ag);simp only [go_sem,sevalprocAttr]|apply ae<;>(intro h_;(try simp only [h_]);revert h_)|apply And.intro|with_reducible intro h_|trivial|simp only [go_sem,ah];omega)
 refine ⟨au.fn rfl LH ?_⟩
 repeat' (first|omega|(try apply ag);simp only [go_sem,sevalprocAttr]|apply ae<;>(intro h_;(try simp only [h_]);revert h_)|apply And.intro|with_reducible intro h_|trivial|simp only [go_sem,ah];omega)
 refine aR.intro (fun k fr H=> ∃(acc:List Int) (g:Nat),g<m.length/\0<acc.length/\acc.length+k=m.length+2/\acc++eZ (bJ m) h (m.length+1-acc.length) g=ak (bJ m) m.length h/\fr=[(6,I g),(5, .sl 1 0 0 acc.length),(1,I h),(0,roI m)]/\H=[(0, .cells 3 (.ints acc))]) ?_ ?_
 ·have h2:=mS h hh;refine ⟨m.length+1,_,_,?_,[(h:Int)],(bJ m h).toNat,by omega,by simp,by simp;omega,?_,rfl,rfl⟩
  ·refine Wk.sub ?_ ?_<;>simp only [go_sem,sevalprocAttr]
   all_goals omega
  ·rw [Int.toNat_of_nonneg h2.1];simp [ak]
 rintro k fr H ⟨acc,g,hg,ha,hk,nh,rfl,rfl⟩;have s9:=rz g hg;have hr:=mS g hg;have key:((g:Int)=h\/m.length<acc.length)->acc=ak (bJ m) m.length h:=fun hc=>by
  rw [←nh];rcases hc with e|e
  ·have:eZ (bJ m) h (m.length+1-acc.length) g=[]:=by
    cases m.length+1-acc.length with
    |zero=>rfl
    |succ f=>simp [eZ,e]
   rw [this,List.append_nil]
  ·rw [show m.length+1-acc.length=0 by omega];simp [eZ]
 repeat' (first|omega|(try apply ag);simp only [go_sem,sevalprocAttr]|apply ae<;>(intro h_;(try simp only [h_]);revert h_)|apply And.intro|with_reducible intro h_|trivial|simp only [go_sem,ah];omega)
 ·refine ⟨au.fn rfl s9 ?_⟩
  repeat' (first|omega|(try apply ag);simp only [go_sem,sevalprocAttr]|apply ae<;>(intro h_;(try simp only [h_]);revert h_)|apply And.intro|with_reducible intro h_|trivial|simp only [go_sem,ah];omega)
  refine ⟨k-1,_,_,?_,?_,⟨acc++[(g:Int)],(bJ m g).toNat,by omega,by simp,by simp;omega,?_,rfl,rfl⟩⟩
  ·omega
  ·refine Wk.sub ?_ ?_<;>simp only [go_sem,sevalprocAttr]
   all_goals omega
  ·rw [←nh,Int.toNat_of_nonneg hr.1,show m.length+1-acc.length=(m.length+1-(acc++[(g:Int)]).length)+1 by simp;omega];rw [eZ,if_neg (by omega)];simp
 all_goals first
  |exact congrArg List.length (key (by omega))
  |(rw [List.take_length];exact key (by omega))
end Go.Proofs.YtmdjdekgakidhaaGreatDoor
