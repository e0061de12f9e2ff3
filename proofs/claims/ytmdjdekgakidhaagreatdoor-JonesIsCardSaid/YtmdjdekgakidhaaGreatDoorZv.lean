/- Layer 18: the text of the Jones polynomial, as a contract; the chapter's examples. -/
import Derived.Test.YtmdjdekgakidhaaGreatDoorZu
import Derived.Test.YtmdjdekgakidhaaGreatDoorZi
import Derived.Test.YtmdjdekgakidhaaGreatDoorZh
namespace Go.Proofs.YtmdjdekgakidhaaGreatDoor
open Go Go.RowKit
set_option maxRecDepth 100000
set_option maxHeartbeats 8000000
set_option linter.unusedVariables false
set_option linter.unusedSimpArgs false
theorem Oi {nm:List UInt8} {p:List (Int×Int)} (hn:nm.length<=1000) (hr:tf p): ∀k,k<=p.length->(txtN nm p k).length<=k*2000
 |0,_=>by simp [txtN]
 |k+1,hk=>by
  have h1:=Oi hn hr k (by omega);have h2:=HS (nm:=nm) (k:=k) hn (hr k (by omega));simp only [txtN,zzF];omega
theorem Hr {nm:List UInt8} {p:List (Int×Int)} (hn:nm.length<=1000) (hr:tf p) (hl:p.length<=2001):(fD nm p).length<=100000000:=by
 unfold fD
 split
 ·simp
 ·have:=Oi hn hr p.length (zzA _);omega
theorem Wo (e:Int) (h0: -1000<=e) (h1:e<=1000):Fn Tryz.prog 57 [I e] (I (e.tdiv 2)):=by
 have hr:=(jc e).2 (by omega) (by omega);refine Fn.intro [.tmp 2] Tryz.func57 rfl rfl (by decide) (by simp [Tryz.ntmps57]) ?_;rw [Tryz.ntmps57]
 repeat' (first|omega|(try apply ag);simp only [go_sem,sevalprocAttr]|apply ae<;>(intro h_;(try simp only [h_]);revert h_)|apply And.intro|with_reducible intro h_|trivial|simp only [go_sem,ah];omega)
theorem Wn (e:Int) (h0: -999<=e) (h1:e<=1000):Fn Tryz.prog 58 [I e] (I ((e-1).tdiv 2)):=by
 have hr:=(jc (e-1)).2 (by omega) (by omega);refine Fn.intro [.tmp 2] Tryz.func58 rfl rfl (by decide) (by simp [Tryz.ntmps58]) ?_;rw [Tryz.ntmps58]
 repeat' (first|omega|(try apply ag);simp only [go_sem,sevalprocAttr]|apply ae<;>(intro h_;(try simp only [h_]);revert h_)|apply And.intro|with_reducible intro h_|trivial|simp only [go_sem,ah];omega)
def cD (m:List Int) (n L:Nat) (w C x:Int):Int:=if C % 2=1 then dD m n L w (2*x) else dD m n L w (2*x+1)
def tS (C:Int) (p:List (Int×Int)):List UInt8:=if C % 2=1 then fD [116] p else ([]:List UInt8)++[40]++fD [116] p++[41,116,94,40,49,47,50,41]
theorem Hq (s m:List Int) (L:Nat) (hs:s.length<=9) (hL:L<=20) (hv:cX s m L=true) (av: ¬(s.length=0/\L=0)) (fW: ∀e,fP m s.length L (wrS s s.length) e≠0->(e-2*(((ff s m).length:Int)+L-1))% 4=0):
  Fn Tryz.prog 19 [dgA s m L] (.tup [.str ⟨(tS ((ff s m).length+L) (bS (cD m s.length L (wrS s s.length) ((ff s m).length+L)))).toArray⟩,I 0]):=by
 have hC:=Oj s m L hs hL hv av fW;have hK:=UQ s m L;rw [if_pos hv] at hK;have hp:=dI hv;have v1:=jb hv;have wM:=uO v1.sg s.length (zzA _);have dL:=EL s m;generalize wrS s s.length=w at*;generalize (ff s m).length=st at*;have pw:=fun e (he:fP m s.length L w e≠0)=>qL hp hs hL (by omega) he
 have dZ: ∀x,dD m s.length L w x≠0-> -100<=x/\x<=100:=fun x hx=>by have:=pw _ hx;omega
 have oH: ∀x,dD m s.length L w x≠0->(x+st+L-1)% 2=0:=fun x hx=>by have:=fW _ hx;omega
 have iL: ∀x,-70368744177664<=dD m s.length L w x/\dD m s.length L w x<=70368744177664:=fun x=>yj hp hs hL _;have hq:aV (bS (dD m s.length L w)) (dD m s.length L w):=nQ fun e he=>by have:=dZ e he;omega
 have Fb: ∀e,dD m s.length L w e≠0->ig (bS (dD m s.length L w))<=e/\e<ig (bS (dD m s.length L w))+(rI (bS (dD m s.length L w))-ig (bS (dD m s.length L w))+1).toNat:=fun e he=>by
  have h1:=hq.cf e;obtain ⟨t,ht,rfl⟩:=xZ (by rw [h1];exact he);have hlen:0<(bS (dD m s.length L w)).length:=List.length_pos_of_mem ht
  have:=tw hq.asc ht
  unfold ig rI;rw [if_pos hlen,if_pos hlen];omega
 have gO: ∀x,cD m s.length L w (st+L) x≠0-> -1000<=x/\x<=1000:=fun x hx=>by
  unfold cD at hx
  split at hx<;>(have:=dZ _ hx;omega)
 have hJ:aV (bS (cD m s.length L w (st+L))) (cD m s.length L w (st+L)):=nQ gO;have hlen:=hJ.len gO;have gb:tf (bS (cD m s.length L w (st+L))):=fun k hk=>by
  have h1:=hJ.mem (iO hk);have h2:=gO _ h1.2;have h3: -70368744177664<=cD m s.length L w (st+L) ((bS (cD m s.length L w (st+L))).getD k (0,0)).1/\cD m s.length L w (st+L) ((bS (cD m s.length L w (st+L))).getD k (0,0)).1<=70368744177664:=by
   generalize ((bS (cD m s.length L w (st+L))).getD k (0,0)).1=y;unfold cD;split<;>exact iL _
  rw [h1.1];omega
 have hX:=DO (bS (cD m s.length L w (st+L))) ⟨#[116]⟩ gb (by decide) (by omega);rw [show (⟨#[116]⟩:ByteArray).data.toList=[116] from rfl] at hX;have fF:(⟨(fD [116] (bS (cD m s.length L w (st+L)))).toArray⟩:ByteArray).size<=100000000:=by
  show (fD [116] (bS (cD m s.length L w (st+L)))).toArray.size<=_;rw [List.size_toArray];exact Hr (by decide) gb hlen
 by_cases hodd:((st:Int)+L)% 2=1
 ·obtain ⟨r,hr,hT⟩:=Il _ _ (fun e=>e.tdiv 2) 57 hq (fun e he=>by have:=dZ e he;omega) iL (fun a b ha hb fy=>by
   have:=oH a ha;have:=oH b hb;have:=(jc a).1 (by omega);have:=(jc b).1 (by omega);omega) (fun e h0 h1=>⟨Wo e h0 h1,(jc _).2 (by omega) (by omega)⟩)
  have iH:aV r (cD m s.length L w (st+L)):=hr.congr fun x=>by
   unfold cD;rw [if_pos hodd];by_cases h0:dD m s.length L w (2*x)=0
   ·rw [Hs fun e he hex=>?_]
    ·rw [h0]
    ·have:=oH e he
     have:=(jc e).1 (by omega)
     have:e=2*x:=by omega
     rw [this] at he;exact he h0
   ·rw [FO Fb (fun a b ha hb fy=>by have:=oH a ha;have:=oH b hb;have:=(jc a).1 (by omega);have:=(jc b).1 (by omega);omega) (e:=2*x) (by have:=(jc (2*x)).1 (by omega);omega) h0]
  rw [iH.eq gO] at hT
  have:=Wq s m L (st+L) _ _ _ hC hK (by rw [Int.tmod_eq_emod_of_nonneg (by omega)];exact hodd) hT hX fF
  unfold tS;rw [if_pos hodd];exact this
 ·obtain ⟨r,hr,hT⟩:=Il _ _ (fun e=>(e-1).tdiv 2) 58 hq (fun e he=>by have:=dZ e he;omega) iL (fun a b ha hb fy=>by
   have:=oH a ha;have:=oH b hb;have:=(jc (a-1)).1 (by omega);have:=(jc (b-1)).1 (by omega);omega) (fun e h0 h1=>by
   by_cases h9:e= -1000
   ·subst h9;exact ⟨by
     refine Fn.intro [.tmp 2] Tryz.func58 rfl rfl (by decide) (by simp [Tryz.ntmps58]) ?_;rw [Tryz.ntmps58]
     repeat' (first|omega|(try apply ag);simp only [go_sem,sevalprocAttr]|apply ae<;>(intro h_;(try simp only [h_]);revert h_)|apply And.intro|with_reducible intro h_|trivial|simp only [go_sem,ah];omega),by decide⟩
   ·exact ⟨Wn e (by omega) h1,(jc _).2 (by omega) (by omega)⟩)
  have iH:aV r (cD m s.length L w (st+L)):=hr.congr fun x=>by
   unfold cD;rw [if_neg hodd];by_cases h0:dD m s.length L w (2*x+1)=0
   ·rw [Hs fun e he hex=>?_]
    ·rw [h0]
    ·have:=oH e he
     have:=(jc (e-1)).1 (by omega)
     have:e=2*x+1:=by omega
     rw [this] at he;exact he h0
   ·rw [FO Fb (fun a b ha hb fy=>by have:=oH a ha;have:=oH b hb;have:=(jc (a-1)).1 (by omega);have:=(jc (b-1)).1 (by omega);omega) (e:=2*x+1) (by have:=(jc (2*x+1-1)).1 (by omega);omega) h0]
  rw [iH.eq gO] at hT
  have:=Wp s m L (st+L) _ _ _ hC hK (by rw [Int.tmod_eq_emod_of_nonneg (by omega)];exact hodd) hT hX fF
  unfold tS;rw [if_neg hodd];exact this
theorem XG (s m:List Int) (L:Int) (hs:s.length<=1000) (nY:oU s s.length):Fn Tryz.prog 66 [dgA s m L] (I (wrS s s.length)):=by
 have hw:=fun k (hk:k<=s.length)=>uO nY k hk;refine Fn.ai [.tmp 2] Tryz.func66 rfl rfl (by decide) (by simp [Tryz.ntmps66]) ?_;rw [Tryz.ntmps66]
 repeat' (first|omega|(try apply ag);simp only [go_sem,sevalprocAttr]|apply ae<;>(intro h_;(try simp only [h_]);revert h_)|apply And.intro|with_reducible intro h_|trivial|simp only [go_sem,ah];omega)
 refine aR.intro (fun n fr H=> ∃k:Nat,k<=s.length/\n=s.length-k/\fr=[(4,I k),(3,I (wrS s k)),(1, .ptr 0 0)]/\H=[(0, .cells 24 (.lst [roI s,roI m,I L]))]) ?_ ?_
 ·refine ⟨_,_,_,Wk.sub ?_ ?_,0,by omega,rfl,rfl,rfl⟩
  ·(simp only [go_sem,sevalprocAttr,wrS])<;>rfl
  ·simp only [go_sem,sevalprocAttr]
 rintro n fr H ⟨k,hk,rfl,rfl,rfl⟩;by_cases s7:k<s.length
 ·have bk:decide ((k:Int)<s.length)=true:=by rw [decide_eq_true_iff];omega
  have h1:=hw k hk;have h2:=nY k s7;have e:wrS s (k+1)=wrS s k+s.getD k 0:=rfl
  repeat' (first|omega|(try apply ag);simp only [go_sem,sevalprocAttr,bk]|apply ae<;>(intro h_;(try simp only [h_]);revert h_)|apply And.intro|with_reducible intro h_|trivial|simp only [go_sem,ah];omega)
  refine ⟨_,_,_,?_,Wk.sub ?_ ?_,k+1,by omega,rfl,rfl,rfl⟩
  ·omega
  ·simp only [go_sem,sevalprocAttr,e]
  ·simp only [go_sem,sevalprocAttr]
 ·obtain rfl:k=s.length:=by omega
  have bk:decide ((s.length:Int)<s.length)=false:=by simp
  repeat' (first|omega|(try apply ag);simp only [go_sem,sevalprocAttr,bk]|apply ae<;>(intro h_;(try simp only [h_]);revert h_)|apply And.intro|with_reducible intro h_|trivial|simp only [go_sem,ah];omega)
  all_goals exact az.refl _
theorem Jt {m:List Int} {n L:Nat} (hp:bD m n) (hn:n<=9) (hL:L<=9) (e:Int): -1099511627776<=cu m n L 1 e/\cu m n L 1 e<=1099511627776:=by
 have h1:=Nq hp (L:=L) (j:=1) (M:=26) (by omega) e;have h2:2^(26+n)<=2^40:=Nat.pow_le_pow_right (by omega) (by omega);omega
theorem MQ {e k:Int} (hk:k≠0):aV [(e,k)] (fun x=>if e=x then k else 0):=by
 refine ⟨⟨by simp,fun t ht=>?_⟩,fun x=>?_⟩
 ·simp only [List.mem_cons,zzH,or_false] at ht;subst ht;exact hk
 ·simp [cfL]
theorem Oh (lo k:Int) (iv: -100000<=lo/\lo<=100000) (ld:k≠0) (hk: -1125899906842624<=k/\k<=1125899906842624):Fn Tryz.prog 69 [I lo,roI [k]] (rpA [(lo,k)]):=by
 have h:=DN lo iv [k] (fun x hx=>by simp only [List.mem_cons,zzH,or_false] at hx;subst hx;exact hk) (by simp);have e:Sp.tmsF lo [k]=[(lo,k)]:=by
  unfold Sp.tmsF;rw [if_neg ld];rfl
 rwa [e] at h
theorem P7 (s m:List Int) (L:Nat) (hv:cX s m L=true) (hs:s.length<=9) (hL:L<=9):Fn Tryz.prog 24 [dgA s m L] (rpA (ks m s.length L (wrS s s.length))):=by
 have hp:=dI hv;have v1:=jb hv;have hw:=uO v1.sg s.length (zzA _);have hW:=XG s m L (by omega) v1.sg;have hB:=Ul s m L hv hs (by omega);have hj:=Df (w:=wrS s s.length) hp hs (show L<=20 by omega) (by omega);obtain ⟨w,Ya⟩: ∃w,wrS s s.length=w:=⟨_,rfl⟩;rw [Ya] at hw hW hj⊢;have Cy:aV (kE m s.length L) (cu m s.length L 1):=nQ fun e he=>tu hp hs (by omega) (zzA _) he
 have mM: ∀e,cu m s.length L 1 e≠0-> -1000<=e/\e<=1000:=fun e he=>tu hp hs (by omega) (zzA _) he;have key: ∀k:Int,(k=if w % 2=0 then 1 else-1)->Fn Tryz.prog 67 [rpA (kE m s.length L),rpA [(0-3*w,k)]] (rpA (ks m s.length L w)):=fun k hk=>by
  have ld:k≠0:=by rw [hk];split<;>decide
  have mZ: -1<=k/\k<=1:=by rw [hk];split<;>decide
  have hlen:=Cy.len mM;obtain ⟨r,hr,hM⟩:=Gy Cy (MQ (e:=0-3*w) ld) mM (fun e he=>by
    by_cases h:0-3*w=e
    ·omega
    ·exact absurd (if_neg h) he) (Jt hp hs hL) (fun e=>by split<;>omega) (h:=fP m s.length L w) (fun e=>by
    rw [show (fun x=>if 0-3*w=x then k else 0)=fun x=>k*(if 0-3*w=x then 1 else 0) from funext fun x=>by split<;>simp];have h1: ∀(p:List (Int×Int)) (e:Int),cvL p (fun x=>k*(if 0-3*w=x then 1 else 0)) e=k*cfL p (e+3*w):=fun p=>by
     induction p with
     |nil=>intro e;simp [cvL,cfL]
     |cons t p ih=>
      intro e;simp only [cvL,cfL,ih,Int.mul_add];congr 1;by_cases h:t.1=e+3*w
      ·rw [if_pos (by omega),if_pos h];rw [Int.mul_one,Int.mul_comm]
      ·rw [if_neg (by omega),if_neg h];simp
    rw [h1,Cy.cf,hk];rfl) (fun e=>by have:=yj (w:=w) hp hs (show L<=20 by omega) e;omega) (by simp;omega)
  rw [hr.eq fun e he=>by have:=qL hp hs (show L<=20 by omega) (by omega) he;omega] at hM;exact hM
 have td:w.tmod 2=0↔w % 2=0:=⟨fun h=>Int.emod_eq_zero_of_dvd (Int.dvd_of_tmod_eq_zero h),fun h=>Int.tmod_eq_zero_of_dvd (Int.dvd_of_emod_eq_zero h)⟩;by_cases du:w % 2=0
 ·have b0:(w.tmod 2 !=0)=false:=by rw [bne_eq_false_iff_eq];exact td.2 du
  have hO:=Oh (0-3*w) 1 (by omega) (by decide) (by decide);have hM:=key 1 (by rw [if_pos du]);refine Fn.ai [.cell 2 49] Tryz.func24 rfl rfl (by decide) (by simp [Tryz.ntmps24]) ?_;rw [Tryz.ntmps24]
  repeat' (first|omega|(try apply ag);simp only [go_sem,sevalprocAttr,b0]|(refine ⟨au.fn (r:=?_) rfl ?_ ?_⟩;rotate_left;assumption)|(refine ⟨bI.fn (r:=?_) rfl ?_ ?_⟩;rotate_left;assumption)|apply ae<;>(intro h_;(try simp only [h_]);revert h_)|apply And.intro|with_reducible intro h_|trivial|simp only [go_sem,ah];omega)
  refine ⟨au.jU [2] rfl (by simp only [go_sem,sevalprocAttr,zzA]) (by simp only [go_sem,sevalprocAttr,zzA]) (by simp only [go_sem,sevalprocAttr,zzA]) (by simp only [go_sem,sevalprocAttr,zzA]) rfl rfl rfl (au.fn rfl hO ?_)⟩
  repeat' (first|omega|(try apply ag);simp only [go_sem,sevalprocAttr,b0]|(refine ⟨au.fn (r:=?_) rfl ?_ ?_⟩;rotate_left;assumption)|(refine ⟨bI.fn (r:=?_) rfl ?_ ?_⟩;rotate_left;assumption)|apply ae<;>(intro h_;(try simp only [h_]);revert h_)|apply And.intro|with_reducible intro h_|trivial|simp only [go_sem,ah];omega)
  all_goals exact az.refl _
 ·have b0:(w.tmod 2 !=0)=true:=by rw [bne_iff_ne];exact fun h=>du (td.1 h)
  have hO:=Oh (0-3*w) (-1) (by omega) (by decide) (by decide);have hM:=key (-1) (by rw [if_neg du]);refine Fn.ai [.cell 2 49] Tryz.func24 rfl rfl (by decide) (by simp [Tryz.ntmps24]) ?_;rw [Tryz.ntmps24]
  repeat' (first|omega|(try apply ag);simp only [go_sem,sevalprocAttr,b0]|(refine ⟨au.fn (r:=?_) rfl ?_ ?_⟩;rotate_left;assumption)|(refine ⟨bI.fn (r:=?_) rfl ?_ ?_⟩;rotate_left;assumption)|apply ae<;>(intro h_;(try simp only [h_]);revert h_)|apply And.intro|with_reducible intro h_|trivial|simp only [go_sem,ah];omega)
  refine ⟨au.jU [2] rfl (by simp only [go_sem,sevalprocAttr,zzA]) (by simp only [go_sem,sevalprocAttr,zzA]) (by simp only [go_sem,sevalprocAttr,zzA]) (by simp only [go_sem,sevalprocAttr,zzA]) rfl rfl rfl (au.fn rfl hO ?_)⟩
  repeat' (first|omega|(try apply ag);simp only [go_sem,sevalprocAttr,b0]|(refine ⟨au.fn (r:=?_) rfl ?_ ?_⟩;rotate_left;assumption)|(refine ⟨bI.fn (r:=?_) rfl ?_ ?_⟩;rotate_left;assumption)|apply ae<;>(intro h_;(try simp only [h_]);revert h_)|apply And.intro|with_reducible intro h_|trivial|simp only [go_sem,ah];omega)
  all_goals exact az.refl _
def Db:List (List Nat):=[[13,14,4],[12,4],[12,4],[4],[4],[17,4],[16,4],[12,13,14,15,11,16,17],[17],[]]
def uN:List (List Nat):=[[31,32,33,34,35,36,37,38,39,40,41],[30,32,34,35,36,37,38,39,40],[30,31,34,35,36,37,38,39,40],[30,34,35,36,37,38,39,40],[30,31,32,33,36],[30,31,32,33,36],[30,31,32,33,34,35],[30,31,32,33],[30,31,32,33],[30,31,32,33],[30,31,32,33],[30],[],[]]
def uM:List (List Nat):=[[],[0],[0,1],[0],[0,1,2,3],[0,1,2,3],[0,1,2,3,4,5],[0,1,2,3],[0,1,2,3],[0,1,2,3],[0,1,2,3],[0],[],[]]
def y8 (f:Int->Int) (t p:Int) (x:Int):Int:=f (t*x+p)
theorem VH {e t:Int} (h:e.tmod t=0):e=t*e.tdiv t:=by
 have:=Int.mul_tdiv_add_tmod e t
 omega
theorem Js {p:List (Int×Int)} {i:Nat} (hi:i<p.length) {t q:Int} (ht:t≠0) (x:Int):
  cfL (p.take (i+1)) (t*x+q)=cfL (p.take i) (t*x+q)+if ((p.getD i (0,0)).1-q).tmod t=0 then (if ((p.getD i (0,0)).1-q).tdiv t=x then (p.getD i (0,0)).2 else 0) else 0:=by
 rw [Vy hi];congr 1;by_cases h:((p.getD i (0,0)).1-q).tmod t=0
 ·rw [if_pos h];have e:=VH h;by_cases hx:((p.getD i (0,0)).1-q).tdiv t=x
  ·rw [if_pos hx,if_pos];rw [hx] at e;omega
  ·rw [if_neg hx,if_neg];intro e2;apply hx;have e3:t*x=t*((p.getD i (0,0)).1-q).tdiv t:=by omega
   exact (Int.eq_of_mul_eq_mul_left ht e3).symm
 ·rw [if_neg h,if_neg];intro e2;apply h;rw [show (p.getD i (0,0)).1-q=t*x by omega];exact Int.mul_tmod_right t x
theorem Og {a t:Int} (ha: -1000<=a/\a<=1000) (ht:t≠0): -1000<=a.tdiv t/\a.tdiv t<=1000:=by
 have h1:(a.tdiv t).natAbs<=a.natAbs:=by rw [Int.natAbs_tdiv];exact Nat.div_le_self _ _
 generalize a.tdiv t=y at*;omega
theorem Nl {p:List (Int×Int)} {f:Int->Int} (h:aV p f) (i:Nat) (e:Int):cfL (p.take i) e=0\/cfL (p.take i) e=f e:=by
 have ha:bR (p.take i):=⟨h.asc.asc.sublist (List.take_sublist _ _),fun t ht=>h.asc.nz t (List.mem_of_mem_take ht)⟩;by_cases h0:cfL (p.take i) e=0
 ·exact .inl h0
 ·obtain ⟨t,ht,rfl⟩:=xZ h0;rw [vb ha ht,(h.mem (List.mem_of_mem_take ht)).1];exact .inr rfl
theorem Ho (p:List (Int×Int)) (f:Int->Int) (t q:Int) (h:aV p f) (hs: ∀e,f e≠0-> -400<=e/\e<=400) (hb: ∀e,-562949953421312<=f e/\f e<=562949953421312) (ht:t≠0) (SV: -4<=t/\t<=4) (hq:0<=q/\q<=1):
  ∃r,aV r (y8 f t q)/\Fn Tryz.prog 70 [rpA p,I t,I q] (rpA r):=by
 have hl:=h.len fun e he=>by have:=hs e he;omega
 have mM: ∀x,f (t*x+q)≠0-> -1000<=x/\x<=1000:=fun x hx=>by
  have h1:=hs _ hx;have h2:=Og (a:=t*x) (t:=t) (by omega) ht;rw [Int.mul_tdiv_cancel_left _ ht] at h2;exact h2
 have E1: ∀i x,cfL (p.take i) (t*x+q)≠0-> -1000<=x/\x<=1000:=fun i x hx=>mM x (by rcases Nl h i (t*x+q) with g|g;exact absurd g hx;rw [←g];exact hx);have L8: ∀i x,-562949953421312<=cfL (p.take i) (t*x+q)/\cfL (p.take i) (t*x+q)<=562949953421312:=fun i x=>by
  rcases Nl h i (t*x+q) with g|g<;>rw [g]
  ·omega
  ·exact hb _
 refine ⟨bS (y8 f t q),nQ mM,?_⟩;have hc:=ya9 p;refine Fn.ai [.cell 6 49] Tryz.func70 rfl rfl (by decide) (by simp [Tryz.ntmps70]) ?_;rw [Tryz.ntmps70]
 repeat' (first|omega|(try apply ag);simp only [go_sem,sevalprocAttr]|apply ae<;>(intro h_;(try simp only [h_]);revert h_)|apply And.intro|with_reducible intro h_|trivial|simp only [go_sem,ah];omega)
 refine ⟨au.fn rfl NW ?_⟩
 repeat' (first|omega|(try apply ag);simp only [go_sem,sevalprocAttr]|apply ae<;>(intro h_;(try simp only [h_]);revert h_)|apply And.intro|with_reducible intro h_|trivial|simp only [go_sem,ah];omega)
 refine aR.intro (fun n fr H=> ∃(i:Nat) (r:List (Int×Int)),i<=p.length/\aV r (fun x=>cfL (p.take i) (t*x+q))/\n=p.length-i/\fr=[(8,I i),(7, .ptr 2 0),(6, .ptr 1 0),(3, .ptr 0 0),(2,I q),(1,I t)]/\
  H=[(2, .cells 49 (.lst [tmA r, .bool false])),(1, .cells 49 (.lst [.nils, .bool false])),(0, .cells 49 (.lst [tmA p, .bool false]))]) ?_ ?_
 ·refine ⟨_,_,_,?_,0,[],by omega,aV.nil,rfl,rfl,rfl⟩;refine Wk.sub ?_ ?_<;>(simp only [go_sem,sevalprocAttr,yaj])
 rintro n fr H ⟨i,r,hi,hr,rfl,rfl,rfl⟩;by_cases hip:i<p.length
 ·have bi:decide ((i:Int)<p.length)=true:=by rw [decide_eq_true_iff];omega
  have aY:=fun x=>Js (p:=p) hip (q:=q) ht x;have e0:=kJ p i hip;have e1:=nP p i hip;have hm:=h.mem (iO hip);have y3:=hs _ hm.2;have BS:=hb (p.getD i (0,0)).1;rw [←hm.1] at BS;have S3:(p.getD i (0,0)).2≠0:=by rw [hm.1];exact hm.2
  generalize (p.getD i (0,0)).1=e at*;generalize (p.getD i (0,0)).2=c at*;have vF:=Og (a:=e-q) (t:=t) (by omega) ht;by_cases hd:(e-q).tmod t=0
  ·have bd:((e-q).tmod t==0)=true:=by rw [beq_iff_eq];exact hd
   obtain ⟨y,hy⟩: ∃y,(e-q).tdiv t=y:=⟨_,rfl⟩;rw [hy] at vF;have hO:=OU y c (by omega) S3 (by omega);obtain ⟨r2,vJ,Mu⟩:=NX hr (MQ (e:=y) S3) (E1 i) (fun x hx=>by
    by_cases g:y=x
    ·omega
    ·exact absurd (if_neg g) hx) (L8 i) (fun x=>by split<;>omega)
   have hn:aV r2 (fun x=>cfL (p.take (i+1)) (t*x+q)):=vJ.congr fun x=>by rw [aY x,if_pos hd,hy]
   repeat' (first|omega|(first|apply ag|(refine aj.intro (id:=7) uN uM (by decide+kernel) mixed ?_)|skip);simp only [go_sem,sevalprocAttr,bi,e0,e1,hc,bd,hy,ht,↓reduceIte,reduceCtorEq,uN,uM]|apply ae<;>(intro h_;(try simp only [h_]);revert h_)|apply And.intro|with_reducible intro h_|trivial|simp only [go_sem,ah];omega)
   refine ⟨bI.new (h:=hO) rfl (by simp only [go_sem,sevalprocAttr,hy]) (by simp only [go_sem,sevalprocAttr,hy];try rfl) ?_⟩;simp only [go_sem,sevalprocAttr,hy,yaj];refine ⟨bI.fn rfl Mu ?_⟩;simp only [go_sem,sevalprocAttr,hy,yaj]
   repeat' (first|omega|(first|apply ag|(refine aj.intro (id:=7) uN uM (by decide+kernel) mixed ?_)|skip);simp only [go_sem,sevalprocAttr,bi,↓reduceIte,reduceCtorEq,uN,uM]|apply ae<;>(intro h_;(try simp only [h_]);revert h_)|apply And.intro|with_reducible intro h_|trivial|simp only [go_sem,ah];omega)
   refine ⟨_,_,_,?_,?_,i+1,r2,by omega,hn,rfl,rfl,rfl⟩
   ·omega
   ·refine Wk.sub ?_ ?_<;>(simp only [go_sem,sevalprocAttr,yaj])
  ·have bd:((e-q).tmod t==0)=false:=by rw [beq_eq_false_iff_ne];exact hd
   have hn:aV r (fun x=>cfL (p.take (i+1)) (t*x+q)):=hr.congr fun x=>by rw [aY x,if_neg hd];omega
   repeat' (first|omega|(first|apply ag|(refine aj.intro (id:=7) uN uM (by decide+kernel) mixed ?_)|skip);simp only [go_sem,sevalprocAttr,bi,e0,e1,hc,bd,ht,↓reduceIte,reduceCtorEq,uN,uM]|apply ae<;>(intro h_;(try simp only [h_]);revert h_)|apply And.intro|with_reducible intro h_|trivial|simp only [go_sem,ah];omega)
   refine ⟨_,_,_,?_,?_,i+1,r,by omega,hn,rfl,rfl,rfl⟩
   ·omega
   ·refine Wk.sub ?_ ?_<;>(simp only [go_sem,sevalprocAttr,yaj])
 ·obtain rfl:i=p.length:=by omega
  have bi:decide ((p.length:Int)<p.length)=false:=by simp
  rw [List.take_length] at hr;have er:r=bS (y8 f t q):=(hr.congr fun x=>h.cf _).eq fun x hx=>mM x hx;rw [er]
  repeat' (first|omega|(first|apply ag|(refine aj.intro (id:=7) uN uM (by decide+kernel) mixed ?_)|skip);simp only [go_sem,sevalprocAttr,bi,hc,↓reduceIte,reduceCtorEq,uN,uM]|apply ae<;>(intro h_;(try simp only [h_]);revert h_)|apply And.intro|with_reducible intro h_|trivial|simp only [go_sem,ah];omega)
  all_goals exact az.refl _
theorem P6 (s m:List Int) (L:Nat) (hv:cX s m L=true) (hs:s.length<=9) (hL:L<=9):Fn Tryz.prog 25 [dgA s m L] (rpA (bS (dD m s.length L (wrS s s.length)))):=by
 have hp:=dI hv;have hw:=uO (jb hv).sg s.length (zzA _);have hP:=P7 s m L hv hs hL;have hj:=Df (w:=wrS s s.length) hp hs (show L<=20 by omega) (by omega);obtain ⟨r,hr,hH⟩:=Ho _ _ (-2) 0 hj (fun e he=>by have:=qL hp hs (show L<=20 by omega) (by omega) he;omega) (fun e=>by have:=yj (w:=wrS s s.length) hp hs (show L<=20 by omega) e;omega) (by decide) (by decide) (by decide)
 have er:r=bS (dD m s.length L (wrS s s.length)):=(hr.congr fun x=>by unfold y8 dD;rw [show-2*x+0= -(2*x) by omega]).eq fun x hx=>by
  have:=qL hp hs (show L<=20 by omega) (by omega) hx;omega
 rw [er] at hH;generalize ks m s.length L (wrS s s.length)=p at*;generalize bS (dD m s.length L (wrS s s.length))=q at*;refine Fn.ai [.cell 2 49] Tryz.func25 rfl rfl (by decide) (by simp [Tryz.ntmps25]) ?_;rw [Tryz.ntmps25]
 repeat' (first|omega|(try apply ag);simp only [go_sem,sevalprocAttr,hP]|(refine ⟨au.fn (r:=?_) rfl ?_ ?_⟩;rotate_left;assumption)|(refine ⟨bI.fn (r:=?_) rfl ?_ ?_⟩;rotate_left;assumption)|apply ae<;>(intro h_;(try simp only [h_]);revert h_)|apply And.intro|with_reducible intro h_|trivial|simp only [go_sem,ah];omega)
 all_goals exact az.refl _
theorem Wm (s m:List Int) (L:Nat) (C:Int) (hC:0<=C) (hv:cX s m L=true) (hs:s.length<=9) (hL:L<=9):Fn Tryz.prog 26 [dgA s m L,I C] (.str ⟨(tS C (bS (cD m s.length L (wrS s s.length) C))).toArray⟩):=by
 have hp:=dI hv;have hw:=uO (jb hv).sg s.length (zzA _);have hU:=P6 s m L hv hs hL;generalize wrS s s.length=w at*;have dZ: ∀x,dD m s.length L w x≠0-> -100<=x/\x<=100:=fun x hx=>by have:=qL hp hs (show L<=20 by omega) (by omega) hx;omega
 have iL: ∀x,-70368744177664<=dD m s.length L w x/\dD m s.length L w x<=70368744177664:=fun x=>yj hp hs (show L<=20 by omega) _;have hq:aV (bS (dD m s.length L w)) (dD m s.length L w):=nQ fun e he=>by have:=dZ e he;omega
 have gO: ∀x,cD m s.length L w C x≠0-> -1000<=x/\x<=1000:=fun x hx=>by
  unfold cD at hx
  split at hx<;>(have:=dZ _ hx;omega)
 have hJ:aV (bS (cD m s.length L w C)) (cD m s.length L w C):=nQ gO;have hlen:=hJ.len gO;have gb:tf (bS (cD m s.length L w C)):=fun k hk=>by
  have h1:=hJ.mem (iO hk);have h2:=gO _ h1.2;have h3: -70368744177664<=cD m s.length L w C ((bS (cD m s.length L w C)).getD k (0,0)).1/\cD m s.length L w C ((bS (cD m s.length L w C)).getD k (0,0)).1<=70368744177664:=by
   generalize ((bS (cD m s.length L w C)).getD k (0,0)).1=y;unfold cD;split<;>exact iL _
  rw [h1.1];omega
 have Zh:(bS (cD m s.length L w C)).length<=1000:=by
  have K6: ∀x,cD m s.length L w C x≠0-> -100<=x/\x<=100:=fun x hx=>by
   unfold cD at hx
   split at hx<;>(have:=dZ _ hx;omega)
  have:=hJ.asc.len (a:= -100) (b:=100) fun t ht=>K6 _ (hJ.mem ht).2
  omega
 have hX:=Hf (bS (cD m s.length L w C)) [116] gb (by decide) Zh;have fF:(⟨(fD [116] (bS (cD m s.length L w C))).toArray⟩:ByteArray).size<=100000000:=by
  show (fD [116] (bS (cD m s.length L w C))).toArray.size<=_;rw [List.size_toArray];exact Hr (by decide) gb hlen
 have dL:(fD [116] (bS (cD m s.length L w C))).length<=100000000:=Hr (by decide) gb hlen;have zd:=fun e=>(show-562949953421312<=dD m s.length L w e/\dD m s.length L w e<=562949953421312 by have:=iL e;omega);by_cases hodd:C % 2=1
 ·obtain ⟨r,hr,hH⟩:=Ho _ _ 2 0 hq (fun e he=>by have:=dZ e he;omega) zd (by decide) (by decide) (by decide);rw [(hr.congr (g:=cD m s.length L w C) fun x=>by unfold y8 cD;rw [if_pos hodd,show 2*x+0=2*x by omega]).eq gO] at hH;have b0:(C.tmod 2==1)=true:=by rw [Int.tmod_eq_emod_of_nonneg hC,beq_iff_eq];exact hodd
  unfold tS;rw [if_pos hodd];generalize bS (cD m s.length L w C)=j at*;generalize bS (dD m s.length L w)=q at*;refine Fn.ai [.tmp 4] Tryz.func26 rfl rfl (by decide) (by simp [Tryz.ntmps26]) ?_;rw [Tryz.ntmps26]
  repeat' (first|omega|(try apply ag);simp only [go_sem,sevalprocAttr,b0]|(refine ⟨au.fn (r:=?_) rfl ?_ ?_⟩;rotate_left;assumption)|(refine ⟨bI.fn (r:=?_) rfl ?_ ?_⟩;rotate_left;assumption)|apply ae<;>(intro h_;(try simp only [h_]);revert h_)|apply And.intro|with_reducible intro h_|trivial|simp only [go_sem,ah];omega)
  all_goals exact az.refl _
 ·obtain ⟨r,hr,hH⟩:=Ho _ _ 2 1 hq (fun e he=>by have:=dZ e he;omega) zd (by decide) (by decide) (by decide);rw [(hr.congr (g:=cD m s.length L w C) fun x=>by unfold y8 cD;rw [if_neg hodd]).eq gO] at hH;have b0:(C.tmod 2==1)=false:=by rw [Int.tmod_eq_emod_of_nonneg hC,beq_eq_false_iff_ne];exact hodd
  unfold tS;rw [if_neg hodd];generalize bS (cD m s.length L w C)=j at*;generalize bS (dD m s.length L w)=q at*;refine Fn.ai [.tmp 4] Tryz.func26 rfl rfl (by decide) (by simp [Tryz.ntmps26]) ?_;rw [Tryz.ntmps26]
  repeat' (first|omega|(try apply ag);simp only [go_sem,sevalprocAttr,b0]|(refine ⟨au.fn (r:=?_) rfl ?_ ?_⟩;rotate_left;assumption)|(refine ⟨bI.fn (r:=?_) rfl ?_ ?_⟩;rotate_left;assumption)|apply ae<;>(intro h_;(try simp only [h_]);revert h_)|apply And.intro|with_reducible intro h_|trivial|simp only [go_sem,ah];omega)
  all_goals first
   |omega
   |(refine az.of (congrArg AV.str (ByteArray.ext ?_));simp [ByteArray.data_append])
theorem Wl (s m:List Int) (L:Int) (hv:cX s m L=false):Fn Tryz.prog 17 [dgA s m L] (.tup [plA false [],I 1]):=by
 have hV:=vh s m L;rw [hv] at hV;refine Fn.ai [.cell 2 29, .tmp 3] Tryz.func17 rfl rfl (by decide) (by simp [Tryz.ntmps17]) ?_;rw [Tryz.ntmps17]
 repeat' (first|omega|(try apply ag);simp only [go_sem,sevalprocAttr,hv]|(refine ⟨au.fn (r:=?_) rfl ?_ ?_⟩;rotate_left;assumption)|(refine ⟨bI.fn (r:=?_) rfl ?_ ?_⟩;rotate_left;assumption)|apply ae<;>(intro h_;(try simp only [h_]);revert h_)|apply And.intro|with_reducible intro h_|trivial|simp only [go_sem,ah];omega)
 all_goals exact C1 1
theorem Wj (m:List Int) (hv:cX [] m 0=true):Fn Tryz.prog 17 [dgA [] m 0] (.tup [plA false [],I 8]):=by
 have hV:=vh [] m 0;rw [hv] at hV;have hO:=Om [] m 0 (by decide);rw [if_pos hv] at hO;have hB:=J5 m (ib m 0 0) (by rw [zL];omega) hv rfl;refine Fn.ai [.cell 2 29, .tmp 3] Tryz.func17 rfl rfl (by decide) (by simp [Tryz.ntmps17]) ?_;rw [Tryz.ntmps17]
 repeat' (first|omega|(first|apply ag|(refine aj.intro (id:=3) Db [[],[0],[0],[],[],[],[5],[0,1,2,3,4,5,6],[6],[]] (by decide+kernel) mixed ?_)|skip);simp only [go_sem,sevalprocAttr,↓reduceIte,reduceCtorEq,Db]|apply ae<;>(intro h_;(try simp only [h_]);revert h_)|apply And.intro|with_reducible intro h_|trivial|simp only [go_sem,ah];omega)
 refine ⟨au.fn rfl hV ?_⟩
 repeat' (first|omega|(first|apply ag|(refine aj.intro (id:=3) Db [[],[0],[0],[],[],[],[5],[0,1,2,3,4,5,6],[6],[]] (by decide+kernel) mixed ?_)|skip);simp only [go_sem,sevalprocAttr,↓reduceIte,reduceCtorEq,Db]|apply ae<;>(intro h_;(try simp only [h_]);revert h_)|apply And.intro|with_reducible intro h_|trivial|simp only [go_sem,ah];omega)
 refine ⟨bI.fn rfl hO ?_⟩;simp only [go_sem,sevalprocAttr];refine ⟨bI.fn rfl hB ?_⟩;simp only [go_sem,sevalprocAttr]
 repeat' (first|omega|(try apply ag);simp only [go_sem,sevalprocAttr,hv]|(refine ⟨au.fn (r:=?_) rfl ?_ ?_⟩;rotate_left;assumption)|(refine ⟨bI.fn (r:=?_) rfl ?_ ?_⟩;rotate_left;assumption)|apply ae<;>(intro h_;(try simp only [h_]);revert h_)|apply And.intro|with_reducible intro h_|trivial|simp only [go_sem,ah];omega)
 all_goals exact C1 8
theorem P5 (s m:List Int) (L:Int) (k:Int) (hk:k≠0) (hP:Fn Tryz.prog 17 [dgA s m L] (.tup [plA false [],I k])):Fn Tryz.prog 18 [dgA s m L] (.tup [plA false [],I k]):=by
 have b0:(k !=0)=true:=by rw [bne_iff_ne];exact hk
 refine Fn.ai [.cell 2 29, .tmp 3] Tryz.func18 rfl rfl (by decide) (by simp [Tryz.ntmps18]) ?_;rw [Tryz.ntmps18]
 repeat' (first|omega|(try apply ag);simp only [go_sem,sevalprocAttr,b0]|(refine ⟨au.fn (r:=?_) rfl ?_ ?_⟩;rotate_left;assumption)|(refine ⟨bI.fn (r:=?_) rfl ?_ ?_⟩;rotate_left;assumption)|apply ae<;>(intro h_;(try simp only [h_]);revert h_)|apply And.intro|with_reducible intro h_|trivial|simp only [go_sem,ah];omega)
 all_goals exact C1 k
theorem P4 (s m:List Int) (L:Int) (k:Int) (hk:k≠0) (hC:Fn Tryz.prog 18 [dgA s m L] (.tup [plA false [],I k])):Fn Tryz.prog 19 [dgA s m L] (.tup [.str ⟨#[]⟩,I k]):=by
 have b0:(k !=0)=true:=by rw [bne_iff_ne];exact hk
 refine Fn.ai [.tmp 2, .tmp 3] Tryz.func19 rfl rfl (by decide) (by simp [Tryz.ntmps19]) ?_;rw [Tryz.ntmps19]
 repeat' (first|omega|(try apply ag);simp only [go_sem,sevalprocAttr,b0]|(refine ⟨au.fn (r:=?_) rfl ?_ ?_⟩;rotate_left;assumption)|(refine ⟨bI.fn (r:=?_) rfl ?_ ?_⟩;rotate_left;assumption)|apply ae<;>(intro h_;(try simp only [h_]);revert h_)|apply And.intro|with_reducible intro h_|trivial|simp only [go_sem,ah];omega)
 all_goals exact az.refl _
abbrev kM:List Int:=[1,1,1]
abbrev ji:List Int:=[9,4,7,10,1,8,11,2,5,0,3,6]
theorem yB:cX kM ji 0=true:=by decide+kernel
theorem Ix (e:Int):cu ji 3 0 1 e=cfL [(-7,1),(-3,-1),(5,-1)] e:=by
 have h:kE ji kM.length 0=[(-7,1),(-3,-1),(5,-1)]:=Iy (s:=kM) (m:=ji) (L:=0) yB (by decide) (by decide) (p:=[(-7,1),(-3,-1),(5,-1)]) ⟨by decide,by decide⟩ 14 (by decide) (by decide) (by decide+kernel);have hP:aV (kE ji 3 0) (cu ji 3 0 1):=nQ fun e he=>tu (dI yB) (by decide) (by decide) (by decide) he;rw [←hP.cf];rw [show kE ji 3 0=[(-7,1),(-3,-1),(5,-1)] from h]
theorem FN (e:Int):fP ji 3 0 3 e=cfL [(-16,-1),(-12,1),(-4,1)] e:=by
 unfold fP;rw [if_neg (by decide),Ix];simp only [cfL]
 repeat' split
 all_goals omega
theorem AN:ks ji 3 0 3=[(-16,-1),(-12,1),(-4,1)]:=by
 have:aV [(-16,-1),(-12,1),(-4,1)] (fP ji 3 0 3):=⟨⟨by decide,by decide⟩,fun e=>(FN e).symm⟩
 exact (this.eq fun e he=>by have:=qL (dI yB) (by decide) (by decide) (by decide) he;omega).symm
theorem AM:bS (cD ji 3 0 3 1)=[(1,1),(3,1),(4,-1)]:=by
 have:aV [(1,1),(3,1),(4,-1)] (cD ji 3 0 3 1):=⟨⟨by decide,by decide⟩,fun e=>by
  unfold cD dD;rw [if_pos (by decide),FN];simp only [cfL]
  repeat' split
  all_goals omega⟩
 refine (this.eq fun e he=>?_).symm;unfold cD dD at he;rw [if_pos (by decide)] at he
 have:=qL (dI yB) (by decide) (by decide) (by decide) he;omega
theorem Wi:cX [] [] 2=true:=by decide+kernel
theorem Be:bS (cD [] 0 2 0 2)=[(-1,-1),(0,-1)]:=by
 have h0: ∀x,cD [] 0 2 0 2 x=cfL [(-1,-1),(0,-1)] x:=fun x=>by
  unfold cD dD fP;rw [if_neg (by decide),if_pos (by decide),Hu 1];simp only [dpw,dw,cfL]
  repeat' split
  all_goals omega
 have:aV [(-1,-1),(0,-1)] (cD [] 0 2 0 2):=⟨⟨by decide,by decide⟩,fun e=>(h0 e).symm⟩
 refine (this.eq fun e he=>?_).symm;rw [h0] at he;simp only [cfL] at he;by_cases h1:(-1:Int)=e
 ·omega
 ·by_cases h2:(0:Int)=e
  ·omega
  ·rw [if_neg h1,if_neg h2] at he;exact absurd rfl he
theorem VG:Fn Tryz.prog 17 [dgA kM ji 0] (.tup [plA false [(-16,-1),(-12,1),(-4,1)],I 0]):=by
 have h:=Ht kM ji 0 (by decide) (by decide) yB (by decide);rw [show wrS kM kM.length=3 from rfl,show ks ji kM.length 0 3=[(-16,-1),(-12,1),(-4,1)] from AN] at h;exact h
theorem AL:Fn Tryz.prog 22 [plA false [(-16,-1),(-12,1),(-4,1)], .str ⟨#[65]⟩] (.str ⟨#[45,65,94,45,49,54,43,65,94,45,49,50,43,65,94,45,52]⟩):=by
 have h:=DO [(-16,-1),(-12,1),(-4,1)] ⟨#[65]⟩ (fun k hk=>by
  match k,hk with
  |0,_=>decide
  |1,_=>decide
  |2,_=>decide) (by decide) (by decide)
 rw [show (⟨#[65]⟩:ByteArray).data.toList=[65] from rfl,show fD [65] [(-16,-1),(-12,1),(-4,1)]=[45,65,94,45,49,54,43,65,94,45,49,50,43,65,94,45,52] by decide+kernel] at h;exact h
theorem Jr: ∀e,fP ji kM.length ((0:Nat)) (wrS kM kM.length) e≠0->(e-2*(((ff kM ji).length:Int)+((0:Nat):Int)-1))% 4=0:=fun e he=>by
 have kb:fP ji 3 0 3 e≠0:=he;rw [FN] at kb;rw [show ((ff kM ji).length:Int)+(0:Nat)=1 by decide+kernel];simp only [cfL] at kb;by_cases h1:(-16:Int)=e
 ·omega
 ·by_cases h2:(-12:Int)=e
  ·omega
  ·by_cases h3:(-4:Int)=e
   ·omega
   ·rw [if_neg h1,if_neg h2,if_neg h3] at kb;exact absurd rfl kb
theorem Jq: ∀e,fP [] ([]:List Int).length ((2:Nat)) (wrS [] ([]:List Int).length) e≠0->(e-2*(((ff [] []).length:Int)+((2:Nat):Int)-1))% 4=0:=fun e he=>by
 have kb:fP [] 0 2 0 e≠0:=he;unfold fP at kb;rw [if_pos (by decide),Hu 1] at kb;rw [show ((ff [] []).length:Int)+(2:Nat)=2 by decide+kernel];simp only [dpw,dw] at kb
 split at kb<;>split at kb<;>omega
theorem VF:Fn Tryz.prog 19 [dgA kM ji 0] (.tup [.str ⟨#[116,43,116,94,51,45,116,94,52]⟩,I 0]):=by
 have h:=Hq kM ji 0 (by decide) (by decide) yB (by decide) Jr;rw [show ((ff kM ji).length:Int)+(0:Nat)=1 by decide+kernel,show wrS kM kM.length=3 from rfl,show bS (cD ji kM.length 0 3 1)=[(1,1),(3,1),(4,-1)] from AM,show tS 1 [(1,1),(3,1),(4,-1)]=[116,43,116,94,51,45,116,94,52] by decide+kernel] at h;exact h
theorem VE:Fn Tryz.prog 19 [dgA [] [] 2] (.tup [.str ⟨#[40,45,116,94,45,49,45,49,41,116,94,40,49,47,50,41]⟩,I 0]):=by
 have h:=Hq [] [] 2 (by decide) (by decide) Wi (by decide) Jq;rw [show ((ff [] []).length:Int)+(2:Nat)=2 by decide+kernel,show wrS [] ([]:List Int).length=0 from rfl,show bS (cD [] ([]:List Int).length 2 0 2)=[(-1,-1),(0,-1)] from Be,show tS 2 [(-1,-1),(0,-1)]=[40,45,116,94,45,49,45,49,41,116,94,40,49,47,50,41] by decide+kernel] at h;exact h
theorem XF:Fn Tryz.prog 15 [] (.bool true):=by
 have hP:=VG;have hX:=AL;have hT:=VF;have hL:=VE
 have hL':Fn Tryz.prog 19 [.agg [.nils, .nils,I 2]] (.tup [.str ⟨#[40,45,116,94,45,49,45,49,41,116,94,40,49,47,50,41]⟩,I 0]):=
  hL.arg (.cons (az.iA (.cons (az.nils (by decide) rfl) (.cons (az.nils (by decide) rfl) (.cons (az.refl _) .nil)))) .nil)
 refine Fn.ai [.tmp 0] Tryz.func15 rfl rfl (by decide) (by simp [Tryz.ntmps15]) ?_;rw [Tryz.ntmps15]
 repeat' (first|omega|(try apply ag);simp only [go_sem,sevalprocAttr]|apply ae<;>(intro h_;(try simp only [h_]);revert h_)|apply And.intro|with_reducible intro h_|trivial|simp only [go_sem,ah];omega)
 refine ⟨au.jU [0,1] rfl (by simp only [go_sem,sevalprocAttr,zzA]) (by simp only [go_sem,sevalprocAttr,zzA]) (by simp only [go_sem,sevalprocAttr,zzA]) (by simp only [go_sem,sevalprocAttr,zzA]) rfl rfl rfl (au.fn rfl hP ?_)⟩
 repeat' (first|omega|(try apply ag);simp only [go_sem,sevalprocAttr,hX]|(refine ⟨au.fn (r:=?_) rfl ?_ ?_⟩;rotate_left;assumption)|(refine ⟨bI.fn (r:=?_) rfl ?_ ?_⟩;rotate_left;assumption)|apply ae<;>(intro h_;(try simp only [h_]);revert h_)|apply And.intro|with_reducible intro h_|trivial|simp only [go_sem,ah];omega)
 all_goals exact az.refl _
def sk (s m:List Int) (L:Int):Bool:=decide (s.length<=9)&&decide (m.length<=45)&&(decide (L<=9)||decide (64<L))
theorem Iw (s m:List Int) (L:Int):Fn Tryz.prog 16 [dgA s m L] (.bool (sk s m L)):=by
 unfold sk;by_cases h1:s.length<=9
 ·have b1:decide ((s.length:Int)<=9)=true:=by rw [decide_eq_true_iff];omega
  rw [decide_eq_true h1];by_cases h2:m.length<=45
  ·have b2:decide ((m.length:Int)<=45)=true:=by rw [decide_eq_true_iff];omega
   rw [decide_eq_true h2];cases b3:decide (L<=9) with
   |true=>
    refine Fn.intro [.tmp 2] Tryz.func16 rfl rfl (by decide) (by simp [Tryz.ntmps16]) ?_;rw [Tryz.ntmps16]
    repeat' (first|omega|(try apply ag);simp only [go_sem,sevalprocAttr,b1,b2,b3]|apply ae<;>(intro h_;(try simp only [h_]);revert h_)|apply And.intro|with_reducible intro h_|trivial|simp only [go_sem,ah];omega)
   |false=>
    refine Fn.intro [.tmp 2] Tryz.func16 rfl rfl (by decide) (by simp [Tryz.ntmps16]) ?_;rw [Tryz.ntmps16]
    repeat' (first|omega|(try apply ag);simp only [go_sem,sevalprocAttr,b1,b2,b3]|apply ae<;>(intro h_;(try simp only [h_]);revert h_)|apply And.intro|with_reducible intro h_|trivial|simp only [go_sem,ah];omega)
  ·have b2:decide ((m.length:Int)<=45)=false:=by rw [decide_eq_false_iff_not];omega
   rw [decide_eq_false h2];refine Fn.intro [.tmp 2] Tryz.func16 rfl rfl (by decide) (by simp [Tryz.ntmps16]) ?_;rw [Tryz.ntmps16]
   repeat' (first|omega|(try apply ag);simp only [go_sem,sevalprocAttr,b1,b2]|apply ae<;>(intro h_;(try simp only [h_]);revert h_)|apply And.intro|with_reducible intro h_|trivial|simp only [go_sem,ah];omega)
 ·have b1:decide ((s.length:Int)<=9)=false:=by rw [decide_eq_false_iff_not];omega
  rw [decide_eq_false h1];refine Fn.intro [.tmp 2] Tryz.func16 rfl rfl (by decide) (by simp [Tryz.ntmps16]) ?_;rw [Tryz.ntmps16]
  repeat' (first|omega|(try apply ag);simp only [go_sem,sevalprocAttr,b1]|apply ae<;>(intro h_;(try simp only [h_]);revert h_)|apply And.intro|with_reducible intro h_|trivial|simp only [go_sem,ah];omega)
end Go.Proofs.YtmdjdekgakidhaaGreatDoor
