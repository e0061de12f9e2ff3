/- Layer 12: sums and products of polynomials that are known by their coefficients. -/
import Derived.Test.YtmdjdekgakidhaaDoorZm
import Derived.Test.YtmdjdekgakidhaaDoorZi
import Derived.Test.YtmdjdekgakidhaaDoorZe
import Derived.Test.YtmdjdekgakidhaaDoorSx1
set_option linter.unusedSimpArgs false
set_option linter.unusedVariables false
namespace Go.Proofs.YtmdjdekgakidhaaDoor
open Go Go.RowKit
set_option maxRecDepth 100000
structure yap (p:List (Int×Int)) (f:Int->Int):Prop where
 asc:AscN p
 cf: ∀e,cfL p e=f e
theorem yap.nil:yap [] (fun _=>0):=⟨AscN.nil,fun _=>rfl⟩
theorem yap.congr {p:List (Int×Int)} {f g:Int->Int} (h:yap p f) (e: ∀x,f x=g x):yap p g:=⟨h.asc,fun x=>(h.cf x).trans (e x)⟩
theorem yap.mem {p:List (Int×Int)} {f:Int->Int} (h:yap p f) {t:Int×Int} (ht:t∈p):t.2=f t.1/\f t.1≠0:=by
 have:=yfj h.asc ht
 rw [h.cf] at this
 exact ⟨this.symm,by rw [this];exact h.asc.nz t ht⟩
theorem yap.len {p:List (Int×Int)} {f:Int->Int} (h:yap p f) (hs: ∀e,f e≠0-> -1000<=e/\e<=1000):p.length<=2001:=by
 have:=h.asc.len (a:= -1000) (b:=1000) fun t ht=>hs _ (h.mem ht).2
 omega
theorem yap.fits {p:List (Int×Int)} {f:Int->Int} (h:yap p f) (hb: ∀e,-1125899906842624<=f e/\f e<=1125899906842624):yl0 p:=fun t ht=>by
 rw [(h.mem ht).1];exact hb _
theorem yap.ok {p:List (Int×Int)} {f:Int->Int} (h:yap p f) (hs: ∀e,f e≠0-> -1000<=e/\e<=1000) (hb: ∀e,-1125899906842624<=f e/\f e<=1125899906842624):yp1 p:=by
 refine ⟨h.fits hb,by have:=h.len hs;omega,fun i j hij hj=>?_,fun i hi=>?_⟩
 ·by_cases e:i=j
  ·subst e;exact Int.le_refl _
  ·have:=List.pairwise_iff_getElem.1 h.asc.asc i j (by omega) hj (by omega)
   simp only [List.getD_eq_getElem?_getD,List.getElem?_eq_getElem hj,List.getElem?_eq_getElem (show i<p.length by omega),Option.getD_some]
   omega
 ·have:=hs _ (h.mem (yb0 hi)).2
  omega
theorem dAsc:AscN [(-2,-1),(2,-1)]:=⟨by decide,by decide⟩
theorem yjq {p q:List (Int×Int)} {f g h:Int->Int} (hp:yap p f) (hq:yap q g) (hs: ∀e,f e≠0-> -1000<=e/\e<=1000) (hs2: ∀e,g e≠0-> -1000<=e/\e<=1000)
  (hb: ∀e,-1125899906842624<=f e/\f e<=1125899906842624) (hb2: ∀e,-1125899906842624<=g e/\g e<=1125899906842624) (hh: ∀e,cvL p g e=h e) (hb3: ∀e,-1125899906842624<=h e/\h e<=1125899906842624)
  (hp0:0<p.length) (hq0:0<q.length) (hd:ya2 p+ya2 q-(lowE p+lowE q)<=64+4*(p.length:Int)*q.length):
  ∃r,yap r h/\Fn Tryd.prog 15 [plA false p,plA false q] (plA false r):=by
 have a0:=hs _ (hp.mem (yb0 (i:=0) hp0)).2
 have a1:=hs _ (hp.mem (yb0 (i:=p.length-1) (by omega))).2
 have b0:=hs2 _ (hq.mem (yb0 (i:=0) hq0)).2
 have b1:=hs2 _ (hq.mem (yb0 (i:=q.length-1) (by omega))).2
 have hgq:cfL q=g:=funext hq.cf
 have hc: ∀e,cfL (tmI (lowE p+lowE q) (mulZ p q)) e=h e:=fun e=>by rw [y22 hp.asc hq.asc,hgq,hh]
 refine ⟨_,⟨yfk _ _,hc⟩,y44 p q (hp.ok hs hb) (hq.ok hs2 hb2) hp0 hq0 ?_ ?_ ?_ hd fun z hz=>?_⟩
 ·unfold lowE;omega
 ·unfold ya2;omega
 ·unfold lowE ya2;omega
 ·obtain ⟨i,hi,rfl⟩:=List.mem_iff_getElem.1 hz
  have h1:=yfl (lowE p+lowE q) (mulZ p q) (lowE p+lowE q+i)
  rw [if_pos (by omega),show (lowE p+lowE q+(i:Int)-(lowE p+lowE q)).toNat=i by omega,hc] at h1
  have h2:(mulZ p q).getD i 0=(mulZ p q)[i]:=by simp [List.getD_eq_getElem?_getD,hi]
  rw [←h2,←h1];exact hb3 _
theorem y5h {p:List (Int×Int)} {f:Int->Int} (hp:yap p f) (hs: ∀e,f e≠0-> -1000<=e/\e<=1000) (hb: ∀e,-281474976710656<=f e/\f e<=281474976710656) (hd:0<p.length->ya2 p-lowE p+4<=64+8*(p.length:Int)):
  ∃q,yap q (dml f)/\Fn Tryd.prog 15 [plA false p,plA false [(-2,-1),(2,-1)]] (plA false q):=by
 by_cases hp0:0<p.length
 ·have hq:yap [(-2,-1),(2,-1)] (cfL [(-2,-1),(2,-1)]):=⟨dAsc,fun _=>rfl⟩
  refine yjq hp hq hs (fun e he=>?_) (fun e=>by have:=hb e;omega) (fun e=>?_) (h:=dml f) (fun e=>by rw [y6l,show cfL p=f from funext hp.cf]) (fun e=>?_) hp0 (by decide) ?_
  ·simp only [cfL] at he
   by_cases h1:(-2:Int)=e
   ·omega
   ·rw [if_neg h1] at he
    by_cases h2:(2:Int)=e
    ·omega
    ·rw [if_neg h2] at he;exact absurd rfl he
  ·simp only [cfL];split<;>split<;>omega
  ·have h1:=hb (e+2)
   have h2:=hb (e-2)
   unfold dml;omega
  ·have:=hd hp0
   have e1:ya2 [((-2:Int),(-1:Int)),(2,-1)]=2:=rfl
   have e2:lowE [((-2:Int),(-1:Int)),(2,-1)]= -2:=rfl
   rw [e1,e2,show ([((-2:Int),(-1:Int)),(2,-1)]:List (Int×Int)).length=2 from rfl]
   omega
 ·obtain rfl:p=[]:=List.length_eq_zero_iff.1 (by omega)
  refine ⟨[],yap.nil.congr fun e=>?_,ysb _⟩
  have h1:=hp.cf (e+2)
  have h2:=hp.cf (e-2)
  simp only [cfL] at h1 h2
  unfold dml;rw [←h1,←h2];rfl
def yam (f:Int->Int):List (Int×Int):=tmI (-1000) ((List.range 2001).map fun (i:Nat)=>f ((i:Int)-1000))
theorem ye6 {f:Int->Int} (hs: ∀e,f e≠0-> -1000<=e/\e<=1000):yap (yam f) f:=by
 refine ⟨yfk _ _,fun e=>?_⟩
 unfold yam
 rw [yfl]
 by_cases h0:f e=0
 ·rw [h0]
  split
  ·by_cases h1:(e- -1000).toNat<2001
   ·simp only [List.getD_eq_getElem?_getD,List.getElem?_map,List.getElem?_range h1,Option.map_some,Option.getD_some]
    rw [show (((e- -1000).toNat:Nat):Int)-1000=e by omega,h0]
   ·rw [List.getD_eq_getElem?_getD,List.getElem?_eq_none (by simp;omega)];rfl
  ·rfl
 ·have:=hs e h0
  rw [if_pos (by omega)]
  have h1:(e- -1000).toNat<2001:=by omega
  simp only [List.getD_eq_getElem?_getD,List.getElem?_map,List.getElem?_range h1,Option.map_some,Option.getD_some]
  rw [show (((e- -1000).toNat:Nat):Int)-1000=e by omega]
theorem yap.eq {p:List (Int×Int)} {f:Int->Int} (h:yap p f) (hs: ∀e,f e≠0-> -1000<=e/\e<=1000):p=yam f:=
 AscN.ext h.asc (ye6 hs).asc fun e=>by rw [h.cf,(ye6 hs).cf]
def brP (m:List Int) (n L:Nat):List (Int×Int):=yam (brT m n L 1)
theorem yjr {m:List Int} {n L:Nat} (hp:PmOk m n) (hn:n<=9) (hL:L<=20) {j:Nat} (hj:1<=j) {e:Int} (he:brT m n L j e≠0): -1000<=e/\e<=1000:=by
 have h1:=yh4 hp he
 have h2:=yc4 hp (fun _=>true)
 have h3:=yc4 hp (fun _=>false)
 omega
theorem ysx {m:List Int} {n L:Nat} (hp:PmOk m n) (hn:n<=9) (hL:L<=20) {j:Nat} (hj:1<=j) (e:Int): -70368744177664<=brT m n L j e/\brT m n L j e<=70368744177664:=by
 have h1:=y25 hp (L:=L) (j:=j) (M:=37) (by omega) e
 have h2:2^(37+n)<=2^46:=Nat.pow_le_pow_right (by omega) (by omega)
 omega
end Go.Proofs.YtmdjdekgakidhaaDoor
set_option linter.unusedSimpArgs false
set_option linter.unusedVariables false
namespace Go.Proofs.YtmdjdekgakidhaaDoor
open Go Go.RowKit
inductive LeFr:Fr->Fr->Prop
 |nil:LeFr [] []
 |cons {i:Nat} {x y:AV} {fr fr':Fr}:LeA x y->LeFr fr fr'->LeFr ((i,x)::fr) ((i,y)::fr')
theorem LeFr.refl: ∀fr:Fr,LeFr fr fr
 |[]=> .nil
 |(_,x)::fr=> .cons (LeA.refl x) (LeFr.refl fr)
theorem LeFr.get {fr fr':Fr} (h:LeFr fr fr') (t:Nat):LeA (fget fr t) (fget fr' t):=by
 induction h with
 |nil=>exact LeA.refl _
 |cons h1 _ ih=>
  simp only [fget]
  split
  ·exact h1
  ·exact ih
theorem Wk.le {fr fr':Fr} {H:Hp} (h:LeFr fr fr'):Wk fr H fr' H:=fun _ _ _ _ _ ρ _ hs=>⟨ρ,hs.reslot fun t=>(h.get t).out _ _ _ _ _ (hs.frv t)⟩
theorem yn5 (H:Hp) (i j:Nat):hget (H++[(i, .gone)]) j=match hget H j with|some o=>some o|none=>if i=j then some .gone else none:=by
 induction H with
 |nil=>simp [hget]
 |cons p H ih=>
  obtain ⟨k,o⟩:=p
  rw [List.cons_append]
  simp only [hget]
  by_cases e:k=j
  ·rw [if_pos e,if_pos e]
  ·rw [if_neg e,if_neg e];exact ih
theorem Wk.gone {fr:Fr} {H:Hp} (i:Nat) (h:hget H i=none):Wk fr H fr (H++[(i, .gone)]):=by
 intro B w0 Mx N w ρ a hs
 have up: ∀j o,hget H j=some o->hget (H++[(i, .gone)]) j=some o:=fun j o hj=>by rw [yn5,hj]
 have dn: ∀j o,hget (H++[(i, .gone)]) j=some o->o= .gone\/hget H j=some o:=fun j o hj=>by
  rw [yn5] at hj
  cases hq:hget H j with
  |some o'=>rw [hq] at hj;exact .inr hj
  |none=>
   rw [hq] at hj
   simp only at hj
   split at hj
   ·cases hj;exact .inl rfl
   ·cases hj
 have dl: ∀j o,hget (H++[(i, .gone)]) j=some o->o.live=true->hget H j=some o:=fun j o hj hl=>by
  rcases dn j o hj with rfl|h2
  ·cases hl
  ·exact h2
 have hM: ∀b,¬MM Mx H ρ b-> ¬MM Mx (H++[(i, .gone)]) ρ b:=fun b hn hm=>hn (by
  rcases hm with h1|⟨id,o,h1,h2,h3⟩
  ·exact .inl h1
  ·exact .inr ⟨id,o,dl id o h1 h2,h2,h3⟩)
 have hc: ∀{v:Value} {x:AV},VR w (MM Mx H ρ) ρ (DD H) v x->VR w (MM Mx (H++[(i, .gone)]) ρ) ρ (DD (H++[(i, .gone)])) v x:=fun hv=>
  hv.carry (Nat.le_refl _) (fun b _ hm=>⟨rfl,hM b hm⟩) (fun id hd=>⟨let ⟨o,ho⟩:=hd;⟨o,up id o ho⟩,rfl,fun arr t ha=>⟨arr,ha,rfl⟩⟩)
 refine ⟨ρ,hs.below,hs.hB,hs.mx,fun id o h1 h2=>hs.own id o (dl id o h1 h2) h2,fun id o h1=>?_,fun id o id' o' h1 h2 h3 h4 h5=>hs.inj id o id' o' (dl _ _ h1 h2) h2 (dl _ _ h3 h4) h4 h5,fun t=>hc (hs.frv t),hs.defers,hs.size⟩
 rcases dn id o h1 with rfl|h2
 ·trivial
 have hr:=hs.objs id o h2
 cases o with
 |gone=>trivial
 |cells t c=>
  obtain ⟨g1,arr,g2,g3,g4⟩:=hr
  exact ⟨g1,arr,g2,g3,fun j hj=>let ⟨u,hu,hv⟩:=g4 j hj;⟨u,hu,hc hv⟩⟩
 |gmap t ck l=>
  obtain ⟨es,g1,g2,g3⟩:=hr
  exact ⟨es,g1,g2,fun j e' q he hl=>let ⟨k1,k2,k3⟩:=g3 j e' q he hl;⟨k1,k2,hc k3⟩⟩
 |iter mid s sn la=>
  obtain ⟨g1,g2,g3⟩:=hr
  obtain ⟨om,hom⟩:=g1
  exact ⟨⟨om,up mid om hom⟩,g2,g3⟩
 |imap t l=>
  obtain ⟨g0,es,ck,g1,g2,g3⟩:=hr
  exact ⟨g0,es,ck,g1,g2,fun j e' k x he hl=>let ⟨k1,k2,k3⟩:=g3 j e' k x he hl;⟨k1,hc k2,k3⟩⟩
 |fmap t c=>exact hr
end Go.Proofs.YtmdjdekgakidhaaDoor
namespace Go.Proofs.YtmdjdekgakidhaaDoor
open Go Go.RowKit
set_option maxRecDepth 100000
set_option maxHeartbeats 8000000
set_option linter.unusedVariables false
set_option linter.unusedSimpArgs false
theorem y5i (lo:Int) (cs:List Int) (hl:cs.length<=1000000) (hm:mxN cs<=1125899906842624):Fn Tryd.prog 29 [tpA lo cs] (.bool false):=by
 refine Fn.introL [.tmp 2] Tryd.func29 rfl rfl (by decide) (by simp [Tryd.ntmps29]) ?_;rw [Tryd.ntmps29]
 repeat' (first|omega|(try apply yaa);simp only [go_sem,sevalprocAttr]|apply yae<;>(intro h_;(try simp only [h_]);revert h_)|apply yad|apply yab|apply gspI|apply And.intro|with_reducible intro h_|trivial|simp only [go_sem,la2];omega)
 refine yak.intro (fun n fr H=> ∃k:Nat,k<=cs.length/\n=cs.length-k/\fr=[(8,I k),(7,I cs.length),(6,roI cs)]/\H=[]) ?_ ?_
 ·refine ⟨_,_,_,?_,0,by omega,rfl,rfl,rfl⟩
  refine Wk.sub ?_ ?_<;>simp only [go_sem,sevalprocAttr]
 rintro n fr H ⟨k,hk,rfl,rfl,rfl⟩
 by_cases hkl:k<cs.length
 ·have bk:decide ((k:Int)<cs.length)=true:=by simp;omega
  have hc:=ye0 cs k
  have b1:decide (1125899906842624<cs.getD k 0)=false:=by rw [decide_eq_false_iff_not];omega
  have b2:decide (cs.getD k 0< -1125899906842624)=false:=by rw [decide_eq_false_iff_not];omega
  repeat' (first|omega|(try apply yaa);simp only [go_sem,sevalprocAttr,bk,b1,b2]|apply yae<;>(intro h_;(try simp only [h_]);revert h_)|apply yad|apply yab|apply gspI|apply And.intro|with_reducible intro h_|trivial|simp only [go_sem,la2];omega)
  refine ⟨_,_,_,?_,?_,k+1,by omega,rfl,rfl,rfl⟩
  ·omega
  ·refine Wk.sub ?_ ?_<;>simp only [go_sem,sevalprocAttr]
 ·obtain rfl:k=cs.length:=by omega
  have bk:decide ((cs.length:Int)<cs.length)=false:=by simp
  repeat' (first|omega|(try apply yaa);simp only [go_sem,sevalprocAttr,bk]|apply yae<;>(intro h_;(try simp only [h_]);revert h_)|apply yad|apply yab|apply gspI|apply And.intro|with_reducible intro h_|trivial|simp only [go_sem,la2];omega)
  all_goals exact LeA.refl _
theorem yn6 (H:Hp): ∀(G:List PE) (i:Nat),(∀k g,G[k]?=some g->hget H (i+k+10)=some (.cells 3 (.ints g.cs)))->hsel H ((List.range' i G.length).map (· +10))=rwE i G
 |[],_,_=>rfl
 |g::G,i,h=>by
  have h0:=h 0 g rfl
  rw [Nat.add_zero] at h0
  simp only [List.length_cons,List.range'_succ,List.map_cons,hsel,h0,rwE]
  rw [yn6 H G (i+1) fun k g' hk=>by rw [show i+1+k+10=i+(k+1)+10 by omega];exact h (k+1) g' hk]
def plP (o:List Nat):Nat->List Nat
 |0=>[]
 |k+1=>o.getD k 0::plP o k
def plE (m:List Int) (o:List Nat):Nat->List Int
 |0=>[]
 |k+1=>endL m (plE m o k) (o.getD k 0)
theorem yby {o:List Nat} {k:Nat} (h:k<o.length):o.drop k=o.getD k 0::o.drop (k+1):=by
 rw [List.getD_eq_getElem?_getD,List.getElem?_eq_getElem h,Option.getD_some]
 exact List.drop_eq_getElem_cons h
theorem ydc {m:List Int} {n:Nat} (hp:PmOk m n) {o:List Nat} (hn:o.Nodup) (hl:o.length=n) (hr: ∀c∈o,c<n): ∀k,k<=n->Stg m n (plP o k) (plE m o k) (o.drop k)/\(plE m o k).length<=4*k
 |0,_=>⟨Stg.init hn hl hr,by simp [plE]⟩
 |k+1,hk=>by
  obtain ⟨h1,h2⟩:=ydc hp hn hl hr k (by omega)
  rw [yby (by omega)] at h1
  have h3:=h1.dj _ (List.mem_cons_self ..)
  have h4:=yso hp h1.he h3.2 h3.1
  refine ⟨h1.step hp,?_⟩
  simp only [plE];omega
structure SdOk (m:List Int) (n:Nat) (o:List Nat) (k:Nat) (sd:List PE):Prop where
 ok:GOk (plE m o k).length (k:Int) (2+200*(k:Int)) sd
 len:sd.length<=2^k
 pos:1<=sd.length
 va: ∀e,sumG (vaS m (o.drop k) (plE m o k) e) sd=brT m n 0 1 e
 nu:sumN (nuS m (o.drop k) (plE m o k)) sd<=2^(3*n)
theorem SdOk.init {m:List Int} {n:Nat} (hp:PmOk m n) {o:List Nat} (hn:o.Nodup) (hl:o.length=n) (hr: ∀c∈o,c<n) (hn0:0<n):SdOk m n o 0 [⟨pS [],0,[1]⟩]:=by
 have hd:dK (pS [])=[]:=yeo (by simp)
 refine ⟨⟨by simp [ybd],fun g hg=>?_,fun g hg=>?_,fun g hg=>?_,fun g hg=>?_⟩,by simp,by simp,fun e=>?_,?_⟩
 ·simp only [List.mem_cons,List.not_mem_nil,or_false] at hg
  subst hg
  dsimp only
  rw [hd]
  exact ⟨rfl,rfl,fun x hx=>by simp [plE] at hx,fun x hx=>by simp [plE] at hx,fun x hx=>by simp [plE] at hx⟩
 ·simp only [List.mem_cons,List.not_mem_nil,or_false] at hg
  subst hg;simp
 ·simp only [List.mem_cons,List.not_mem_nil,or_false] at hg
  subst hg;simp
 ·simp only [List.mem_cons,List.not_mem_nil,or_false] at hg
  subst hg;simp
 ·rw [←y3d hp hn hl hr hn0 e]
  simp only [sumG,vaS,hd,List.drop_zero,plE,Int.add_zero]
  refine ybo m o [] [] (fun x=>?_) e
  unfold pfE
  by_cases h0:x=0
  ·subst h0;rfl
  ·rw [if_neg h0]
   split
   ·rename_i h
    have:(x-0)/2≠0:=by omega
    obtain ⟨j,hj⟩: ∃j,((x-0)/2).toNat=j+1:=⟨((x-0)/2).toNat-1,by omega⟩
    rw [hj];rfl
   ·rfl
 ·simp only [sumN,nuS,hd,List.drop_zero,plE,mxN]
  have:=yzp hp hn hl hr
  simpa using this
structure MdOk (m:List Int) (n:Nat) (o:List Nat) (k:Nat) (sd:List PE) (sn:List Nat) (G:List PE):Prop where
 nd:sn.Nodup
 rg: ∀i∈sn,i<sd.length
 ok:GOk (plE m o (k+1)).length ((k:Int)+1) (2+200*(k:Int)+200) G
 len:G.length<=2*sn.length
 pos:sn≠[]->1<=G.length
 va: ∀e,sumG (vaS m (o.drop (k+1)) (plE m o (k+1)) e) G=(sn.map fun i=>vaS m (o.drop k) (plE m o k) e (sd.getD i ⟨ByteArray.empty,0,[]⟩)).sum
 nu:sumN (nuS m (o.drop (k+1)) (plE m o (k+1))) G<=(sn.map fun i=>nuS m (o.drop k) (plE m o k) (sd.getD i ⟨ByteArray.empty,0,[]⟩)).sum
theorem MdOk.init (m:List Int) (n:Nat) (o:List Nat) (k:Nat) (sd:List PE):MdOk m n o k sd [] []:=
 ⟨by simp,by simp,GOk.nil _ _ _,by simp,by simp,fun e=>rfl,by simp [sumN]⟩
theorem ysy (l:List Int) (x:Int):(l++[x]).sum=l.sum+x:=by rw [List.sum_append_int];simp
theorem yla (F:PE->Int) (d:PE): ∀(sd:List PE),((List.range sd.length).map fun i=>F (sd.getD i d)).sum=sumG F sd
 |[]=>rfl
 |g::sd=>by
  rw [List.length_cons,List.range_succ_eq_map,List.map_cons,List.map_map,List.sum_cons]
  have:=yla F d sd
  simp only [sumG,←this]
  rfl
theorem ylb (F:PE->Nat) (d:PE): ∀(sd:List PE),((List.range sd.length).map fun i=>F (sd.getD i d)).sum=sumN F sd
 |[]=>rfl
 |g::sd=>by
  rw [List.length_cons,List.range_succ_eq_map,List.map_cons,List.map_map,List.sum_cons]
  have:=ylb F d sd
  simp only [sumN,←this]
  rfl
theorem yn7 {l k:List Nat} (h:l.Perm k):l.sum=k.sum:=by
 induction h with
 |nil=>rfl
 |cons x _ ih=>simp only [List.sum_cons,ih]
 |swap x y l=>simp only [List.sum_cons];omega
 |trans _ _ h1 h2=>rw [h1,h2]
theorem yqu {sn:List Nat} {N:Nat} (hn:sn.Nodup) (hr: ∀i∈sn,i<N) (ha: ∀i,i<N->i∈sn):sn.Perm (List.range N):=
 (List.perm_ext_iff_of_nodup hn List.nodup_range).2 fun a=>⟨fun h=>List.mem_range.2 (hr a h),fun h=>ha a (List.mem_range.1 h)⟩
section
variable {m:List Int} {n:Nat} (hp:PmOk m n) {o:List Nat} (hn:o.Nodup) (hl:o.length=n) (hr: ∀c∈o,c<n) (hn14:n<=14)
include hp hn hl hr hn14
theorem MdOk.step {k:Nat} (hk:k<n) {sd:List PE} (hS:SdOk m n o k sd) {sn:List Nat} {G:List PE} (h:MdOk m n o k sd sn G) {i:Nat} {g:PE} (hi:sd[i]?=some g) (hni:i∉sn):MdOk m n o k sd (sn++[i]) (exG m (o.getD k 0) (spN (o.drop (k+1))) (plE m o k) G g):=by
 obtain ⟨s1,s2⟩:=ydc hp hn hl hr k (by omega)
 have s3:=(ydc hp hn hl hr (k+1) (by omega)).2
 rw [yby (by omega)] at s1
 have hd:=s1.dj _ (List.mem_cons_self ..)
 have hg:g∈sd:=List.mem_of_getElem? hi
 have hgo:=hS.ok.ok g hg
 have e1:plE m o (k+1)=endL m (plE m o k) (o.getD k 0):=rfl
 have hgd:sd.getD i ⟨ByteArray.empty,0,[]⟩=g:=by rw [List.getD_eq_getElem?_getD,hi];rfl
 have hex:=yst m (o.getD k 0) (spN (o.drop (k+1))) (plE m o k) G g
 have hok:=h.ok
 rw [e1] at hok s3
 refine ⟨?_,fun j hj=>?_,?_,?_,fun _=>hex.2,fun e=>?_,?_⟩
 ·rw [List.nodup_append]
  refine ⟨h.nd,by simp,fun x hx y hy e=>?_⟩
  simp only [List.mem_cons,List.not_mem_nil,or_false] at hy
  exact hni (hy▸e▸hx)
 ·rcases List.mem_append.1 hj with hj|hj
  ·exact h.rg j hj
  ·simp only [List.mem_cons,List.not_mem_nil,or_false] at hj
   subst hj;exact (List.getElem?_eq_some_iff.1 hi).1
 ·rw [e1]
  exact ywr hp s1.he hd.2 hd.1 (by omega) (by omega) hgo.2 (hS.ok.pr g hg) (hS.ok.rg g hg) (hS.ok.ne g hg) _ hok
 ·have:=h.len
  simp only [List.length_append,List.length_cons,List.length_nil];omega
 ·rw [e1,y5e hp s1.he hd.2 hd.1 (by omega) (by omega) hgo.2 (hS.ok.pr g hg) _ (hS.ok.rg g hg) (hS.ok.ne g hg) hok e]
  rw [List.map_append,List.map_cons,List.map_nil,ysy,hgd,←h.va e,e1,yby (show k<o.length by omega)]
 ·have h1:=y5f hp s1.he hd.2 hd.1 (by omega) (by omega) hgo.2 G (o.drop (k+1)) (spN (o.drop (k+1)))
  have h2:=h.nu
  rw [e1] at h2⊢
  rw [List.map_append,List.map_cons,List.map_nil,List.sum_append,hgd,yby (show k<o.length by omega)]
  rw [yby (show k<o.length by omega)] at h2
  simp only [List.sum_cons,List.sum_nil,Nat.add_zero]
  omega
omit hp hn hl hr hn14 in
theorem MdOk.all {k:Nat} {sd:List PE} (hS:SdOk m n o k sd) {sn:List Nat} {G:List PE} (h:MdOk m n o k sd sn G) (ha: ∀i,i<sd.length->i∈sn):SdOk m n o (k+1) G:=by
 have hp:=yqu h.nd h.rg ha
 have hsl:sn.length=sd.length:=by have:=hp.length_eq;simpa using this
 have hlen:=h.len
 have hsd:=hS.len
 have hpos:=hS.pos
 refine ⟨?_,by rw [Nat.pow_succ];omega,h.pos (fun e=>by rw [e] at hsl;simp at hsl;omega),fun e=>?_,?_⟩
 ·have e2:2+200*((k+1:Nat):Int)=2+200*(k:Int)+200:=by omega
  rw [e2,show ((k+1:Nat):Int)=(k:Int)+1 by omega]
  exact h.ok
 ·rw [h.va e,yh2 (hp.map _),yla (fun g=>vaS m (o.drop k) (plE m o k) e g)]
  exact hS.va e
 ·have h1:=h.nu
  rw [yn7 (hp.map _),ylb (fun g=>nuS m (o.drop k) (plE m o k) g)] at h1
  exact Nat.le_trans h1 hS.nu
end
theorem y0u {m:List Int} {r:List Nat} {ends:List Int} {G:List PE} {B:Nat} (h:sumN (nuS m r ends) G<=B) {g:PE} (hg:g∈G):mxN g.cs<=B:=by
 have h1:=yk6 (F:=nuS m r ends) hg
 have h2:=yjo m r ends (dK g.key)
 have h3:mxN g.cs*1<=nuS m r ends g:=Nat.mul_le_mul_left _ h2
 omega
theorem yt9 (f:Nat->Nat) {sn:List Nat} {N:Nat} (hn:sn.Nodup) (hr: ∀i∈sn,i<N):(sn.map f).sum<=((List.range N).map f).sum:=by
 have hp:(sn++(List.range N).filter fun i=> !sn.contains i).Perm (List.range N):=by
  refine (List.perm_ext_iff_of_nodup ?_ List.nodup_range).2 fun a=>?_
  ·rw [List.nodup_append]
   refine ⟨hn,List.nodup_range.filter _,fun x hx y hy e=>?_⟩
   subst e
   have:=(List.mem_filter.1 hy).2
   simp at this
   exact this hx
  ·simp only [List.mem_append,List.mem_filter,List.mem_range]
   constructor
   ·rintro (h|h)
    ·exact hr a h
    ·exact h.1
   ·intro h
    by_cases ha:a∈sn
    ·exact .inl ha
    ·exact .inr ⟨h,by simpa using ha⟩
 rw [←yn7 (hp.map f),List.map_append,List.sum_append]
 omega
theorem MdOk.mx {m:List Int} {n:Nat} {o:List Nat} {k:Nat} {sd:List PE} (hS:SdOk m n o k sd) {sn:List Nat} {G:List PE} (h:MdOk m n o k sd sn G) {x:PE} (hx:x∈G):mxN x.cs<=2^(3*n):=by
 refine y0u (Nat.le_trans h.nu (Nat.le_trans (yt9 _ h.nd h.rg) ?_)) hx
 rw [ylb (fun g=>nuS m (o.drop k) (plE m o k) g)]
 exact hS.nu
theorem y6r {m:List Int} {r:List Nat} {c:Nat} {ends:List Int} {g:PE} {B:Nat} (h:nuS m (c::r) ends g<=B) (b:Bool):2^ccN m ends c (dK g.key) b*mxN g.cs<=B:=by
 have key:2^ccN m ends c (dK g.key) b<=nmR m (c::r) ends (dK g.key):=by
  have h0:=yjo m r (endL m ends c) (nxT m ends c (dK g.key) false)
  have h1:=yjo m r (endL m ends c) (nxT m ends c (dK g.key) true)
  have k0:=Nat.mul_le_mul_left (2^ccN m ends c (dK g.key) false) h0
  have k1:=Nat.mul_le_mul_left (2^ccN m ends c (dK g.key) true) h1
  simp only [nmR]
  cases b<;>omega
 have:=Nat.mul_le_mul_left (mxN g.cs) key
 rw [Nat.mul_comm]
 exact Nat.le_trans this h
theorem y3l {sd:List PE} {sn:List Nat} {G:List PE} {F A:Fr} {H0:Hp} (hA: ∀q∈A,fget F q.1=q.2/\q.1<1000000/\s3 okH q.2=true) (hl: ∀t,1000000<=t->fget F t= .any) (hH: ∀i o,hget (swpH sd sn G) i=some o->hget H0 i=some o):Wk F H0 A (swpH sd sn G):=by
 have:=yk8 (ymf (A:=A) (fr1:=[]) hA (fun t ht=>hl t ht) rfl) hH
 simpa [lft] using this
def ok5:Hp:=(1000005, .gone)::okH
theorem yzr {k:Nat} (h:(hget ok5 k).isSome=true):k=1000005\/k=1\/k=2\/k=1000002\/k=1000003\/k=1000004:=by
 simp only [ok5,hget] at h
 split at h
 ·omega
 ·exact .inr (yed h)
theorem y3m {fr:Fr} {H:Hp} (h:fr.all (fun q=>s3 H q.2)=true) (t:Nat):fget fr t= .any\/s3 H (fget fr t)=true:=yma h t
theorem fgA {F A:Fr} (hA: ∀q∈A,fget F q.1=q.2) (t:Nat):fget A t=fget F t\/fget A t= .any:=by
 induction A with
 |nil=>exact .inr rfl
 |cons q A ih=>
  obtain ⟨s,x⟩:=q
  simp only [fget]
  split
  ·rename_i e;subst e;exact .inl (hA (s,x) (List.mem_cons_self ..)).symm
  ·exact ih fun q hq=>hA q (List.mem_cons_of_mem _ hq)
theorem y3n {sd:List PE} {sn:List Nat} {G:List PE} (hG:G.length<=900000) {F A:Fr} (hF:F.all (fun q=>s3 ok5 q.2)=true) (hA: ∀q∈A,fget F q.1=q.2) (hs:A.all (fun q=>s3 [(1000005, .iter 1000002 G.length [] G.length),(1000003, .cells 66 (.lst [.mp 1000002])),(1000002, .gmap 66 G.length (gmD 0 G)),(1, .cells 28 (.lst [.bool false, .nils])),(1000000, .gone)] q.2)=true):
  Wk F ((1000005, .iter 1000002 G.length [] G.length)::swpH sd sn G) A [(1000005, .iter 1000002 G.length [] G.length),(1000003, .cells 66 (.lst [.mp 1000002])),(1000002, .gmap 66 G.length (gmD 0 G)),(1, .cells 28 (.lst [.bool false, .nils])),(1000000, .gone)]:=by
 have hno: ∀k,k<10\/1000000<=k->hget (rwE 0 G) k=none:=fun k hk=>yp7 (by omega)
 have h5: ∀k,(hget ok5 k).isSome=true->hget (rwE 0 G) k=none:=fun k hk=>hno k (by have:=yzr hk;omega)
 have e:hsel ((1000005, .iter 1000002 G.length [] G.length)::swpH sd sn G) ((List.range' 0 G.length).map (· +10))=rwE 0 G:=by
  refine yn6 _ G 0 fun k g hk=>?_
  have:=(List.getElem?_eq_some_iff.1 hk).1
  simp only [hget]
  repeat rw [if_neg (by omega)]
  rw [show 0+k+10=k+10 by omega]
  exact rwE_row hk
 have f1:=ysu h5 hF
 have hrows: ∀(X:List PE) (i:Nat),(∀k g,X[k]?=some g->G[i+k]?=some g)->yca (rwE 0 G) (rwE i X):=by
  intro X
  induction X with
  |nil=>exact fun _ _=>trivial
  |cons g X ih=>exact fun i hX=>⟨trivial,ih (i+1) fun k g hk=>by rw [show i+1+k=i+(k+1) by omega];exact hX (k+1) g hk⟩
 have h2:yca (rwE 0 G) ((1000005, .iter 1000002 G.length [] G.length)::swpH sd sn G):=by
  refine ⟨trivial,trivial,?_,?_,?_,?_,trivial,hrows G 0 fun k g hk=>by rw [Nat.zero_add];exact hk⟩
  ·intro x hx
   simp only [List.mem_cons,List.not_mem_nil,or_false] at hx;subst hx;trivial
  ·intro q hq
   obtain ⟨k,g,hk,rfl⟩:=yji _ _ _ hq
   have h0:=rwE_row hk
   simp only [frzP,List.forall_mem_cons,show 0+k+10=k+10 by omega,h0,yal]
   refine ⟨trivial,?_,by simp⟩
   simp [Cs.len]
  ·intro q hq
   obtain ⟨k,g,hk,rfl⟩:=ybr _ _ _ hq
   simp only [frzP,List.forall_mem_cons]
   exact ⟨trivial,trivial,by simp⟩
  ·intro x hx
   simp only [List.mem_cons,List.not_mem_nil,or_false] at hx
   rcases hx with rfl|rfl<;>trivial
 refine (Wk.frz _ (by rw [e];exact f1.1) (by rw [e];exact h2) rfl rfl).trans ?_
 rw [e,f1.2]
 have hgm:=ysj G G 0 fun k g hk=>by rw [Nat.zero_add];exact hk
 refine Wk.subG (fun t=>?_) fun i o' hi=>?_
 ·rcases y3m hs t with h|h
  ·exact .inl h
  ·rcases fgA hA t with g|g
   ·exact .inr ⟨g,h⟩
   ·exact .inl g
 ·simp only [frzH,frzO,hno 1000005 (by omega),hno 1000004 (by omega),hno 1000003 (by omega),hno 1000002 (by omega),hno 2 (by omega),hno 1 (by omega),hno 1000000 (by omega),hgm]
  simp only [hget] at hi⊢
  split at hi
  ·rename_i e1;subst e1;cases hi;exact ⟨by simp,rfl⟩
  split at hi
  ·rename_i e1;subst e1;cases hi;exact ⟨by simp;rfl,rfl⟩
  split at hi
  ·rename_i e1;subst e1;cases hi
   refine ⟨by simp,List.all_eq_true.2 fun q hq=>?_⟩
   obtain ⟨k,g,_,rfl⟩:=ybr _ _ _ hq;rfl
  split at hi
  ·rename_i e1;subst e1;cases hi;exact ⟨by simp;exact ⟨rfl,rfl⟩,rfl⟩
  split at hi
  ·rename_i e1;subst e1;cases hi;exact ⟨by simp,rfl⟩
  ·cases hi
end Go.Proofs.YtmdjdekgakidhaaDoor
