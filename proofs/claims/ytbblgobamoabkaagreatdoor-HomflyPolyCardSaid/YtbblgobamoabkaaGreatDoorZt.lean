/- The references of layers 13 and 20: sums and shifts of polynomials by their coefficients; circles. -/
import Derived.Test.YtbblgobamoabkaaGreatDoorZs
import Derived.Test.YtbblgobamoabkaaGreatDoorZj
import Derived.Test.YtbblgobamoabkaaGreatDoorZk
import Derived.Test.YtbblgobamoabkaaGreatDoorPl
namespace Go.Proofs.YtbblgobamoabkaaGreatDoor
open Go Go.RowKit Sp
set_option maxRecDepth 100000
set_option maxHeartbeats 8000000
set_option linter.unusedVariables false
set_option linter.unusedSimpArgs false
theorem yiw {p:List (Int×Int)} {f:Int->Int} (h:yak p f) (i:Nat) (e:Int):cfL (p.take i) e=0\/cfL (p.take i) e=f e:=by
 have ha:(p.take i).Pairwise fun a b=>a.1<b.1:=h.asc.asc.sublist (List.take_sublist _ _)
 by_cases h0:cfL (p.take i) e=0
 ·exact .inl h0
 ·have: ∃t∈p.take i,t.1=e:=Classical.byContradiction fun hn=>h0 (ye5 fun t ht he=>hn ⟨t,ht,he⟩)
  obtain ⟨t,ht,rfl⟩:=this
  rw [yim ha ht,(h.mem (List.mem_of_mem_take ht)).1]
  exact .inr rfl
theorem yak.lenC {p:List (Int×Int)} {f:Int->Int} (h:yak p f) {N:Int} (hs:SupB f N) (hN:N<=100):p.length<=45000:=by
 have hm: ∀t∈p,(-N<=bvA t.1/\bvA t.1<=N)/\ -N<=bvZ t.1/\bvZ t.1<=N:=fun t ht=>hs _ (h.mem ht).2
 have ha:AscN (p.map fun t=>(bvA t.1*201+bvZ t.1,t.2)):=by
  refine ⟨?_,fun t ht=>?_⟩
  ·rw [List.pairwise_map]
   refine h.asc.asc.imp_of_mem fun {a b} ma mb hab=>?_
   have h1:=hm a ma
   have h2:=hm b mb
   rcases (ymh _ _).1 hab with h3|⟨h3,h4⟩
   ·show bvA a.1*201+bvZ a.1<bvA b.1*201+bvZ b.1
    omega
   ·show bvA a.1*201+bvZ a.1<bvA b.1*201+bvZ b.1
    omega
  ·obtain ⟨u,hu,rfl⟩:=List.mem_map.1 ht
   exact h.asc.nz u hu
 have:=ha.len (a:= -20200) (b:=20200) fun t ht=>by
  obtain ⟨u,hu,rfl⟩:=List.mem_map.1 ht
  have:=hm u hu
  show-20200<=bvA u.1*201+bvZ u.1/\bvA u.1*201+bvZ u.1<=20200
  omega
 simp only [List.length_map] at this
 omega
theorem yak.bndM {p:List (Int×Int)} {f:Int->Int} (h:yak p f) (hb:BndB f): ∀t∈p,-1125899906842624<=t.2/\t.2<=1125899906842624:=fun t ht=>by rw [(h.mem ht).1];exact hb _
theorem yf5 {p q:List (Int×Int)} {f:Int->Int} {a z:Int} (hp:yak p f) (hS:SupB f 90) (hB:BndB f) (ha: -2<=a/\a<=2) (hz: -2<=z/\z<=2) (hq:yak q fun e=>f (e-bvE a z)):Fn Tryz.prog 49 [bqP p,I a,I z] (bqP q):=by
 have hc: ∀e,cfL (bvSh (bvE a z) p) e=f (e-bvE a z):=fun e=>by unfold bvSh;rw [yio,hp.cf]
 have hlen:=hp.lenC hS (by decide)
 have hbm:=hp.bndM hB
 have hok:yhd (bvSh (bvE a z) p):=by
  refine ⟨by rw [ye6];omega,fun t ht=>?_,fun i e=>?_,fun e he=>?_⟩
  ·obtain ⟨u,hu,rfl⟩:=List.mem_map.1 ht
   have:=hbm u hu
   show-2305843009213693952<=u.2/\u.2<=2305843009213693952
   omega
  ·have e1:(bvSh (bvE a z) p).take i=(p.take i).map fun t=>(t.1+bvE a z,t.2):=by unfold bvSh;rw [List.map_take]
   rw [e1,yio]
   rcases yiw hp i (e-bvE a z) with h|h<;>rw [h]
   ·omega
   ·have:=hB (e-bvE a z);omega
  ·rw [hc] at he⊢
   have h1:=hB (e-bvE a z)
   have h2:=(hS.shift (M:=2) ha hz (by decide) (by decide)) e he
   omega
 have h:=yr1 p a z (by omega) (by omega) (by omega) (fun t ht=>by have:=hp.memB hS ht;omega) hok
 have e:nz (sumR (bvSh (bvE a z) p))=q:=(ygb hc).uniq hq
 rwa [e] at h
theorem yqz {p q r:List (Int×Int)} {f g h:Int->Int} {n:Int} (hp:yak p f) (hq:yak q g) (hS:SupB f 92) (hT:SupB g 92) (hB:BndB f) (hC:BndB g) (hn:n=1\/n= -1) (hr:yak r h) (hh: ∀e,h e=f e+n*g e) (hU:SupB h 92) (hD:BndB h):
  Fn Tryz.prog 48 [bqP p,bqP q,I n] (bqP r):=by
 have lp:=hp.lenC hS (by decide)
 have lq:=hq.lenC hT (by decide)
 have bp:=hp.bndM hB
 have bq:=hq.bndM hC
 have hc: ∀e,cfL (p++tmN n q) e=h e:=fun e=>by rw [ye4,ynl,hp.cf,hq.cf,hh]
 have ng: ∀x:Int,-1125899906842624<=x/\x<=1125899906842624-> -1125899906842624<=n*x/\n*x<=1125899906842624:=fun x hx=>by
  rcases hn with rfl|rfl<;>omega
 have hok:yhd (p++tmN n q):=by
  refine ⟨by rw [List.length_append,yhy];omega,fun t ht=>?_,fun i e=>?_,fun e he=>?_⟩
  ·rcases List.mem_append.1 ht with ht|ht
   ·have:=bp t ht;omega
   ·obtain ⟨u,hu,rfl⟩:=List.mem_map.1 ht
    have:=ng u.2 (bq u hu)
    rw [Int.mul_comm] at this
    show-2305843009213693952<=u.2*n/\u.2*n<=2305843009213693952
    omega
  ·rw [List.take_append,ye4,y1f,ynl]
   have h1: -1125899906842624<=cfL (p.take i) e/\cfL (p.take i) e<=1125899906842624:=by
    rcases yiw hp i e with h|h<;>rw [h]
    ·omega
    ·exact hB e
   have h2: -1125899906842624<=cfL (q.take (i-p.length)) e/\cfL (q.take (i-p.length)) e<=1125899906842624:=by
    rcases yiw hq (i-p.length) e with h|h<;>rw [h]
    ·omega
    ·exact hC e
   have h3:=ng _ h2
   omega
  ·rw [hc] at he⊢
   have h1:=hD e
   have h2:=hU e he
   omega
 have hA:=yyp p q n (by omega) (by omega) (by omega) bp bq hok
 have e:nz (sumR (p++tmN n q))=r:=(ygb hc).uniq hr
 rwa [e] at hA
theorem ytm {B:Int} (hB:0<=B) (e:Int): ∀l:List (Int×Int),(∀t∈l,-B<=t.2/\t.2<=B)-> -(l.length*B)<=cfL l e/\cfL l e<=l.length*B
 |[],_=>by simp [cfL]
 |t::l,h=>by
  have ih:=ytm hB e l fun u hu=>h u (List.mem_cons_of_mem _ hu)
  have ht:=h t (List.mem_cons_self ..)
  have e1:(((t::l).length:Nat):Int)*B=l.length*B+B:=by rw [List.length_cons,Int.natCast_add,Int.add_mul];simp
  rw [e1]
  simp only [cfL]
  generalize (l.length:Int)*B=M at*
  split<;>omega
theorem y5p {k:Nat} (hk:k<=45) {p:List (Int×Int)} (hp:yak p (Hs.XE k)):p.length<=95:=by
 have hm: ∀t∈p,(-46<=bvA t.1/\bvA t.1<=46)/\bvZ t.1=0-((k:Int)-1):=fun t ht=>by
  have h1:=hp.mem ht
  have h2:=Hs.XE_sup k t.1 h1.2
  refine ⟨by omega,Classical.byContradiction fun hn=>h1.2 ?_⟩
  unfold Hs.XE Hs.Xh
  rw [if_neg hn]
 have ha:AscN (p.map fun t=>(bvA t.1,t.2)):=by
  refine ⟨?_,fun t ht=>?_⟩
  ·rw [List.pairwise_map]
   refine hp.asc.asc.imp_of_mem fun {a b} ma mb hab=>?_
   have h1:=hm a ma
   have h2:=hm b mb
   show bvA a.1<bvA b.1
   rcases (ymh _ _).1 hab with h3|⟨h3,h4⟩
   ·exact h3
   ·omega
  ·obtain ⟨u,hu,rfl⟩:=List.mem_map.1 ht
   exact hp.asc.nz u hu
 have:=ha.len (a:= -46) (b:=46) fun t ht=>by
  obtain ⟨u,hu,rfl⟩:=List.mem_map.1 ht
  exact (hm u hu).1
 simp only [List.length_map] at this
 omega
theorem y1i {k:Nat} (hk:1<=k/\k<=44) {p q:List (Int×Int)} (hp:yak p (Hs.XE k)) (hq:yak q (Hs.XE (k+1))):Fn Tryz.prog 77 [bqP p,bqP facL] (bqP q):=by
 obtain ⟨n,rfl⟩: ∃n,k=n+1:=⟨k-1,by omega⟩
 have hlen:=y5p (by omega) hp
 have hB:=yir (k:=n+1) (by omega)
 have hC:=yir (k:=n+1+1) (by omega)
 have bp: ∀t∈p,-35184372088832<=t.2/\t.2<=35184372088832:=fun t ht=>by rw [(hp.mem ht).1];exact hB _
 have bf: ∀u∈facL,u.2=1\/u.2= -1:=by decide
 have bm: ∀t∈p,∀u∈facL,-35184372088832<=t.2*u.2/\t.2*u.2<=35184372088832:=fun t ht u hu=>by
  have h1:=bp t ht
  rcases bf u hu with h|h<;>rw [h]<;>omega
 have hc: ∀e,cfL (mulR p facL) e=Hs.XE (n+1+1) e:=fun e=>by rw [yqx,ys7 hp,Hs.XE_S n (by omega)];rfl
 have hml:(mulR p facL).length<=190:=by rw [yqv];show p.length*2<=190;omega
 have hmm: ∀t∈mulR p facL,-35184372088832<=t.2/\t.2<=35184372088832:=fun t ht=>by
  obtain ⟨u,hu,h1⟩:=List.mem_flatMap.1 ht
  obtain ⟨v,hv,rfl⟩:=List.mem_map.1 h1
  exact bm u hu v hv
 have hok:yhd (mulR p facL):=by
  refine ⟨by omega,fun t ht=>by have:=hmm t ht;omega,fun i e=>?_,fun e he=>?_⟩
  ·have h1:=ytm (B:=35184372088832) (by decide) e ((mulR p facL).take i) fun t ht=>hmm t (List.mem_of_mem_take ht)
   have h2:((mulR p facL).take i).length<=190:=by rw [List.length_take];omega
   have h3:(((mulR p facL).take i).length:Int)*35184372088832<=190*35184372088832:=Int.mul_le_mul_of_nonneg_right (by omega) (by decide)
   generalize (((mulR p facL).take i).length:Int)*35184372088832=M at*
   omega
  ·rw [hc] at he⊢
   have h1:=hC e
   have h2:=Hs.XE_sup _ e he
   omega
 have h:=yys p facL (by omega) (by decide) (fun t ht u hu=>by have:=bm t ht u hu;omega) (fun t ht=>by
  have:=Hs.XE_sup _ _ (hp.mem ht).2
  unfold bvOk;omega) (by unfold bvOk;decide) hok
 have e:nz (sumR (mulR p facL))=q:=(ygb hc).uniq hq
 rwa [e] at h
theorem ytn {l:List (Int×Int)} (hl:AscN l) (hlen:l.length<=2) (hb: ∀t∈l,(-1000<=t.2/\t.2<=1000)/\bvOk t.1):Fn Tryz.prog 76 [bvT l] (bqP l):=by
 have hp:yak l (cfL l):=⟨hl,fun _=>rfl⟩
 have hok:yhd l:=by
  refine ⟨by omega,fun t ht=>by have:=hb t ht;omega,fun i e=>?_,fun e he=>?_⟩
  ·rcases yiw hp i e with h|h<;>rw [h]
   ·omega
   ·by_cases h0:cfL l e=0
    ·rw [h0];omega
    ·have: ∃t∈l,t.1=e:=Classical.byContradiction fun hn=>h0 (ye5 fun t ht he=>hn ⟨t,ht,he⟩)
     obtain ⟨t,ht,rfl⟩:=this
     rw [yim hl.asc ht]
     have:=hb t ht;omega
  ·have: ∃t∈l,t.1=e:=Classical.byContradiction fun hn=>he (ye5 fun t ht he=>hn ⟨t,ht,he⟩)
   obtain ⟨t,ht,rfl⟩:=this
   rw [yim hl.asc ht]
   have:=hb t ht
   unfold bvOk at this
   omega
 have h:=Fn.ofN (yhe l hok)
 have e:nz (sumR l)=l:=(ygb fun _=>rfl).uniq hp
 rwa [e] at h
theorem yu8:Fn Tryz.prog 75 [I 1,I 0,I 0] (bqP [(0,1)]):=by
 have hO:=ytn (l:=[(0,1)]) ⟨by decide,by decide⟩ (by decide) (by unfold bvOk;decide)
 have e:bvC [(0,(1:Int))]=[I 0,I 0,I 1]:=by
  show [I (bvA 0),I (bvZ 0),I 1]=_
  rw [show bvA 0=0 from by decide,show bvZ 0=0 from by decide]
 have eT:bvT [(0,(1:Int))]= .ro 3 1 (.lst [I 0,I 0,I 1]):=by show AV.ro 3 _ (.lst (bvC _))=_;rw [e];rfl
 rw [show bqP [(0,(1:Int))]= .agg [.ro 3 1 (.lst [I 0,I 0,I 1]), .bool false] by show AV.agg [bvT _,_]=_;rw [eT]] at hO⊢
 rw [eT] at hO
 refine Fn.introL [.cell 6 40] Tryz.func75 rfl rfl (by decide) (by simp [Tryz.ntmps75]) ?_;rw [Tryz.ntmps75]
 repeat' (first|omega|(try apply yaa);simp only [go_sem,sevalprocAttr]|apply yab<;>(intro h_;(try simp only [h_]);revert h_)|apply And.intro|with_reducible intro h_|trivial|simp only [go_sem,la2];omega)
 refine ⟨yae.frz [1] rfl (by simp only [go_sem,sevalprocAttr,Nat.le_refl]) (by simp only [go_sem,sevalprocAttr,Nat.le_refl]) (by simp only [go_sem,sevalprocAttr,Nat.le_refl]) (by simp only [go_sem,sevalprocAttr,Nat.le_refl]) rfl rfl rfl (yae.fn rfl hO ?_)⟩
 repeat' (first|omega|(try apply yaa);simp only [go_sem,sevalprocAttr]|apply yab<;>(intro h_;(try simp only [h_]);revert h_)|apply And.intro|with_reducible intro h_|trivial|simp only [go_sem,la2];omega)
 all_goals exact LeA.refl _
theorem yr2 (k:Nat) (hk:1<=k/\k<=45) {p:List (Int×Int)} (hp:yak p (Hs.XE k)):Fn Tryz.prog 45 [I k] (bqP p):=by
 have t1:=yu8
 have hO:=ytn (l:=facL) yni.asc (by decide) (by unfold bvOk;decide)
 have e:bvC facL=[I (-1),I (-1),I 1,I 1,I (-1),I (-1)]:=by
  show [I (bvA facU),I (bvZ facU),I 1,I (bvA facV),I (bvZ facV),I (-1)]=_
  rw [show bvA facU= -1 from by decide,show bvZ facU= -1 from by decide,show bvA facV=1 from by decide,show bvZ facV= -1 from by decide]
 have eT:bvT facL= .ro 3 2 (.lst [I (-1),I (-1),I 1,I 1,I (-1),I (-1)]):=by show AV.ro 3 _ (.lst (bvC _))=_;rw [e];rfl
 rw [show Fn Tryz.prog 76 [bvT facL] (bqP facL)=Fn Tryz.prog 76 [.ro 3 2 (.lst [I (-1),I (-1),I 1,I 1,I (-1),I (-1)])] (bqP facL) by rw [eT]] at hO
 generalize hF:facL=F at*
 refine Fn.introL [.cell 2 40] Tryz.func45 rfl rfl (by decide) (by simp [Tryz.ntmps45]) ?_;rw [Tryz.ntmps45]
 repeat' (first|omega|(try apply yaa);simp only [go_sem,sevalprocAttr]|apply yab<;>(intro h_;(try simp only [h_]);revert h_)|apply And.intro|with_reducible intro h_|trivial|simp only [go_sem,la2];omega)
 refine ⟨yae.fn rfl t1 ?_⟩
 repeat' (first|omega|(try apply yaa);simp only [go_sem,sevalprocAttr,yad]|apply yab<;>(intro h_;(try simp only [h_]);revert h_)|apply And.intro|with_reducible intro h_|trivial|simp only [go_sem,la2];omega)
 refine ⟨yae.frz [2] rfl (by simp only [go_sem,sevalprocAttr,Nat.le_refl]) (by simp only [go_sem,sevalprocAttr,Nat.le_refl]) (by simp only [go_sem,sevalprocAttr,Nat.le_refl]) (by simp only [go_sem,sevalprocAttr,Nat.le_refl]) rfl rfl rfl (yae.fn rfl hO ?_)⟩
 repeat' (first|omega|(try apply yaa);simp only [go_sem,sevalprocAttr,yad]|apply yab<;>(intro h_;(try simp only [h_]);revert h_)|apply And.intro|with_reducible intro h_|trivial|simp only [go_sem,la2];omega)
 refine yaj.intro (fun n fr H=> ∃(i:Nat) (q:List (Int×Int)),(1<=i/\i<=k)/\n=k-i/\yak q (Hs.XE i)/\fr=[(5,I i),(4, .ptr 3 0),(3, .ptr 1 0),(2, .ptr 0 0),(0,I k)]/\H=[(3,bqO (bvT F)),(1,bqO (bvT q)),(0,bqO .nils)]) ?_ ?_
 ·refine ⟨_,_,_,?_,1,[(0,1)],by omega,rfl,Hs.XE_1,rfl,rfl⟩
  refine Wk.sub ?_ ?_<;>(simp only [go_sem,sevalprocAttr,yad])
  all_goals rfl
 rintro n fr H ⟨i,q,hi,rfl,hq,rfl,rfl⟩
 by_cases hil:i<k
 ·have bi:decide ((i:Int)<k)=true:=by simp;omega
  obtain ⟨q',hq'⟩:=ybo (Hs.XE_sup (i+1)) (by omega)
  have hM:=y1i (k:=i) (by omega) hq hq'
  rw [hF] at hM
  repeat' (first|omega|(try apply yaa);simp only [go_sem,sevalprocAttr,bi,yad]|(refine ⟨yae.fn (r:=?_) rfl ?_ ?_⟩;rotate_left;assumption)|(refine ⟨yai.fn (r:=?_) rfl ?_ ?_⟩;rotate_left;assumption)|apply yab<;>(intro h_;(try simp only [h_]);revert h_)|apply And.intro|with_reducible intro h_|trivial|simp only [go_sem,la2];omega)
  refine ⟨_,_,_,?_,?_,i+1,q',by omega,rfl,hq',rfl,rfl⟩
  ·omega
  ·refine Wk.sub ?_ ?_<;>(simp only [go_sem,sevalprocAttr,yad])
 ·obtain rfl:i=k:=by omega
  have bi:decide ((i:Int)<i)=false:=by simp
  obtain rfl:q=p:=hq.uniq hp
  repeat' (first|omega|(try apply yaa);simp only [go_sem,sevalprocAttr,bi,yad]|apply yab<;>(intro h_;(try simp only [h_]);revert h_)|apply And.intro|with_reducible intro h_|trivial|simp only [go_sem,la2];omega)
  all_goals exact LeA.refl _
end Go.Proofs.YtbblgobamoabkaaGreatDoor
set_option linter.unusedSimpArgs false
set_option linter.unusedVariables false
namespace Go.Proofs.YtbblgobamoabkaaGreatDoor
open Go Go.RowKit
set_option maxRecDepth 100000
set_option maxHeartbeats 8000000
theorem yq0 (h b:Int) (h0:0<=h) (h1:h<=100000):Fn Tryz.prog 116 [I h,I b] (I (yar h b)):=by
 have e1:h.tmod 4=h % 4:=Int.tmod_eq_emod_of_nonneg h0
 have e2: -4<b.tmod 4/\b.tmod 4<4:=⟨Int.lt_tmod_of_pos b (by decide),Int.tmod_lt_of_pos b (by decide)⟩
 have e4:(h % 4+b.tmod 4).tmod 4=if 0<=h % 4+b.tmod 4 then (h % 4+b.tmod 4)% 4 else h % 4+b.tmod 4:=by
  split
  ·exact Int.tmod_eq_emod_of_nonneg (by omega)
  ·rename_i hn
   have:(h % 4+b.tmod 4)= -(-(h % 4+b.tmod 4)):=by omega
   rw [this,Int.neg_tmod,Int.tmod_eq_emod_of_nonneg (by omega)]
   omega
 have e3:((h % 4+b.tmod 4).tmod 4+4).tmod 4=(h % 4+b.tmod 4+4)% 4:=by
  rw [e4,Int.tmod_eq_emod_of_nonneg (by split<;>omega)]
  split<;>omega
 unfold yar
 refine Fn.intro [.tmp 4] Tryz.func116 rfl rfl (by decide) (by simp [Tryz.ntmps116]) ?_;rw [Tryz.ntmps116]
 repeat' (first|omega|(try apply yaa);simp only [go_sem,sevalprocAttr]|apply yab<;>(intro h_;(try simp only [h_]);revert h_)|apply And.intro|with_reducible intro h_|trivial|simp only [go_sem,la2];omega)
 all_goals try simp only [e1,e3]
 all_goals try (rw [e4];split<;>omega)
 all_goals try omega
theorem ykg (s:List Int) (h:Int) (h0:0<=h) (h1:h<4*s.length) (hs:s.length<=1000):Fn Tryz.prog 34 [roI s,I h] (.bool (outB s h)):=by
 have e1:h.tmod 4=h % 4:=Int.tmod_eq_emod_of_nonneg h0
 have e2:h.tdiv 4=h/4:=Int.tdiv_eq_ediv_of_nonneg h0
 refine Fn.intro [.tmp 4] Tryz.func34 rfl rfl (by decide) (by simp [Tryz.ntmps34]) ?_;rw [Tryz.ntmps34]
 repeat' (first|omega|(try apply yaa);simp only [go_sem,sevalprocAttr]|apply yab<;>(intro h_;(try simp only [h_]);revert h_)|apply And.intro|with_reducible intro h_|trivial|simp only [go_sem,la2];omega)
 all_goals try simp only [e1,e2] at*
 all_goals try omega
 all_goals simp_all [outB]
theorem yq1 (m:List Int) (n h:Nat) (hn:n<=1000) (hml:m.length=4*n) (hm: ∀i,i<m.length->0<=m.getD i 0/\m.getD i 0<4*n) (hh:h<m.length):Fn Tryz.prog 72 [roI m,I h] (roI (orbF (yag m) m.length h)):=by
 have hnx: ∀g:Nat,g<m.length->Fn Tryz.prog 116 [I (m.getD g 0),I (-1)] (I (yag m g)):=fun g hg=>by
  have:=hm g hg
  exact yq0 _ _ (by omega) (by omega)
 have hrg: ∀g:Nat,g<m.length->0<=yag m g/\yag m g<4*n:=fun g hg=>ydc (hm g hg).1 (hm g hg).2
 have hbig: ∀g:Nat,g<m.length->(g:Int)<m.length:=fun g hg=>by omega
 have hh':=hnx h hh
 refine Fn.intro [.tmp 4] Tryz.func72 rfl rfl (by decide) (by simp [Tryz.ntmps72]) ?_;rw [Tryz.ntmps72]
 repeat' (first|omega|(try apply yaa);simp only [go_sem,sevalprocAttr]|apply yab<;>(intro h_;(try simp only [h_]);revert h_)|apply And.intro|with_reducible intro h_|trivial|simp only [go_sem,la2];omega)
 refine ⟨yae.fn rfl hh' ?_⟩
 repeat' (first|omega|(try apply yaa);simp only [go_sem,sevalprocAttr]|apply yab<;>(intro h_;(try simp only [h_]);revert h_)|apply And.intro|with_reducible intro h_|trivial|simp only [go_sem,la2];omega)
 refine yaj.intro (fun k fr H=> ∃(acc:List Int) (g:Nat),g<m.length/\0<acc.length/\acc.length+k=m.length+2/\acc++orbG (yag m) h (m.length+1-acc.length) g=orbF (yag m) m.length h/\fr=[(6,I g),(5, .sl 1 0 0 acc.length),(1,I h),(0,roI m)]/\H=[(0, .cells 3 (.ints acc))]) ?_ ?_
 ·have h2:=hrg h hh
  refine ⟨m.length+1,_,_,?_,[(h:Int)],(yag m h).toNat,by omega,by simp,by simp;omega,?_,rfl,rfl⟩
  ·refine Wk.sub ?_ ?_<;>simp only [go_sem,sevalprocAttr]
   all_goals omega
  ·rw [Int.toNat_of_nonneg h2.1];simp [orbF]
 rintro k fr H ⟨acc,g,hg,ha,hk,hacc,rfl,rfl⟩
 have hg':=hnx g hg
 have hr:=hrg g hg
 have key:((g:Int)=h\/m.length<acc.length)->acc=orbF (yag m) m.length h:=fun hc=>by
  rw [←hacc]
  rcases hc with e|e
  ·have:orbG (yag m) h (m.length+1-acc.length) g=[]:=by
    cases m.length+1-acc.length with
    |zero=>rfl
    |succ f=>simp [orbG,e]
   rw [this,List.append_nil]
  ·rw [show m.length+1-acc.length=0 by omega];simp [orbG]
 repeat' (first|omega|(try apply yaa);simp only [go_sem,sevalprocAttr]|apply yab<;>(intro h_;(try simp only [h_]);revert h_)|apply And.intro|with_reducible intro h_|trivial|simp only [go_sem,la2];omega)
 ·refine ⟨yae.fn rfl hg' ?_⟩
  repeat' (first|omega|(try apply yaa);simp only [go_sem,sevalprocAttr]|apply yab<;>(intro h_;(try simp only [h_]);revert h_)|apply And.intro|with_reducible intro h_|trivial|simp only [go_sem,la2];omega)
  refine ⟨k-1,_,_,?_,?_,⟨acc++[(g:Int)],(yag m g).toNat,by omega,by simp,by simp;omega,?_,rfl,rfl⟩⟩
  ·omega
  ·refine Wk.sub ?_ ?_<;>simp only [go_sem,sevalprocAttr]
   all_goals omega
  ·rw [←hacc,Int.toNat_of_nonneg hr.1,show m.length+1-acc.length=(m.length+1-(acc++[(g:Int)]).length)+1 by simp;omega]
   rw [orbG,if_neg (by omega)];simp
 all_goals first
  |exact congrArg List.length (key (by omega))
  |(rw [List.take_length];exact key (by omega))
end Go.Proofs.YtbblgobamoabkaaGreatDoor
