/- Layer 12: sums and products of polynomials that are known by their coefficients. -/
import Derived.Test.YtphjphpmfflfpaaGreatDoorZi
import Derived.Test.YtphjphpmfflfpaaGreatDoorZf
import Derived.Test.YtphjphpmfflfpaaGreatDoorZb
import Derived.Test.YtphjphpmfflfpaaGreatDoorSx1
set_option linter.unusedSimpArgs false
set_option linter.unusedVariables false
namespace Go.Proofs.YtphjphpmfflfpaaGreatDoor
open Go Go.RowKit
set_option maxRecDepth 100000
structure bZ (p:List (Int×Int)) (f:Int->Int):Prop where
 asc:b8 p
 cf: ∀e,cfL p e=f e
theorem bZ.nil:bZ [] (fun _=>0):=⟨b8.nil,fun _=>rfl⟩
theorem bZ.congr {p:List (Int×Int)} {f g:Int->Int} (h:bZ p f) (e: ∀x,f x=g x):bZ p g:=⟨h.asc,fun x=>(h.cf x).trans (e x)⟩
theorem bZ.mem {p:List (Int×Int)} {f:Int->Int} (h:bZ p f) {t:Int×Int} (ht:t∈p):t.2=f t.1/\f t.1≠0:=by
 have:=za h.asc ht
 rw [h.cf] at this;exact ⟨this.symm,by rw [this];exact h.asc.nz t ht⟩
theorem bZ.len {p:List (Int×Int)} {f:Int->Int} (h:bZ p f) (hs: ∀e,f e≠0-> -1000<=e/\e<=1000):p.length<=2001:=by
 have:=h.asc.len (a:= -1000) (b:=1000) fun t ht=>hs _ (h.mem ht).2
 omega
theorem bZ.fits {p:List (Int×Int)} {f:Int->Int} (h:bZ p f) (hb: ∀e,-1125899906842624<=f e/\f e<=1125899906842624):uE p:=fun t ht=>by
 rw [(h.mem ht).1];exact hb _
theorem bZ.ok {p:List (Int×Int)} {f:Int->Int} (h:bZ p f) (hs: ∀e,f e≠0-> -1000<=e/\e<=1000) (hb: ∀e,-1125899906842624<=f e/\f e<=1125899906842624):Ju p:=by
 refine ⟨h.fits hb,by have:=h.len hs;omega,fun i j eK hj=>?_,fun i hi=>?_⟩
 ·by_cases e:i=j
  ·subst e;exact Int.le_refl _
  ·have:=List.pairwise_iff_getElem.1 h.asc.asc i j (by omega) hj (by omega)
   simp only [List.getD_eq_getElem?_getD,List.getElem?_eq_getElem hj,List.getElem?_eq_getElem (show i<p.length by omega),Option.getD_some];omega
 ·have:=hs _ (h.mem (jW hi)).2
  omega
theorem Sr {p:List (Int×Int)} (h:p.Pairwise fun a b=>a.1<b.1) {t:Int×Int} (ht:t∈p):cfL p t.1=t.2:=by
 induction p with
 |nil=>cases ht
 |cons u p ih=>
  have h1:=List.pairwise_cons.1 h;simp only [cfL];rcases List.mem_cons.1 ht with rfl|ht
  ·rw [if_pos rfl,rq fun v hv=>by have:=h1.1 v hv;omega];omega
  ·rw [if_neg (by have:=h1.1 t ht;omega),ih h1.2 ht];omega
theorem Mk (c e:Int):bZ (B6 c e) (fun x=>if x=e then c else 0):=by
 unfold B6
 split
 ·rename_i h
  exact bZ.nil.congr fun x=>by rw [h];split<;>rfl
 ·rename_i h
  refine ⟨⟨by simp,fun t ht=>by simp only [List.mem_singleton] at ht;subst ht;exact h⟩,fun x=>?_⟩;simp only [cfL,Int.add_zero];by_cases hx:x=e
  ·rw [if_pos hx.symm,if_pos hx]
  ·rw [if_neg (fun h=>hx h.symm),if_neg hx]
theorem QR:b8 [(-2,-1),(2,-1)]:=⟨by decide,by decide⟩
theorem Gw {p q:List (Int×Int)} {f g h:Int->Int} (hp:bZ p f) (hq:bZ q g) (hs: ∀e,f e≠0-> -1000<=e/\e<=1000) (iW: ∀e,g e≠0-> -1000<=e/\e<=1000)
  (hb: ∀e,-1125899906842624<=f e/\f e<=1125899906842624) (mv: ∀e,-1125899906842624<=g e/\g e<=1125899906842624) (hh: ∀e,cvL p g e=h e) (Fo: ∀e,-1125899906842624<=h e/\h e<=1125899906842624)
  (lf:0<p.length) (qM:0<q.length) (hd:fv p+fv q-(aS p+aS q)<=64+4*(p.length:Int)*q.length):
  ∃r,bZ r h/\Fn Tryz.prog 16 [plA false p,plA false q] (plA false r):=by
 have a0:=hs _ (hp.mem (jW (i:=0) lf)).2;have a1:=hs _ (hp.mem (jW (i:=p.length-1) (by omega))).2;have b0:=iW _ (hq.mem (jW (i:=0) qM)).2;have b1:=iW _ (hq.mem (jW (i:=q.length-1) (by omega))).2;have hgq:cfL q=g:=funext hq.cf;have hc: ∀e,cfL (tmI (aS p+aS q) (mW p q)) e=h e:=fun e=>by rw [NK hp.asc hq.asc,hgq,hh]
 refine ⟨_,⟨GO _ _,hc⟩,MC p q (hp.ok hs hb) (hq.ok iW mv) lf qM ?_ ?_ ?_ hd fun z hz=>?_⟩
 ·unfold aS;omega
 ·unfold fv;omega
 ·unfold aS fv;omega
 ·obtain ⟨i,hi,rfl⟩:=List.mem_iff_getElem.1 hz;have h1:=C3 (aS p+aS q) (mW p q) (aS p+aS q+i);rw [if_pos (by omega),show (aS p+aS q+(i:Int)-(aS p+aS q)).toNat=i by omega,hc] at h1;have h2:(mW p q).getD i 0=(mW p q)[i]:=by simp [List.getD_eq_getElem?_getD,hi]
  rw [←h2,←h1];exact Fo _
theorem U8 {p:List (Int×Int)} {f:Int->Int} (hp:bZ p f) (hs: ∀e,f e≠0-> -1000<=e/\e<=1000) (hb: ∀e,-281474976710656<=f e/\f e<=281474976710656) (hd:0<p.length->fv p-aS p+4<=64+8*(p.length:Int)):
  ∃q,bZ q (cS f)/\Fn Tryz.prog 16 [plA false p,plA false [(-2,-1),(2,-1)]] (plA false q):=by
 by_cases lf:0<p.length
 ·have hq:bZ [(-2,-1),(2,-1)] (cfL [(-2,-1),(2,-1)]):=⟨QR,fun _=>rfl⟩;refine Gw hp hq hs (fun e he=>?_) (fun e=>by have:=hb e;omega) (fun e=>?_) (h:=cS f) (fun e=>by rw [FH,show cfL p=f from funext hp.cf]) (fun e=>?_) lf (by decide) ?_
  ·simp only [cfL] at he;by_cases h1:(-2:Int)=e
   ·omega
   ·rw [if_neg h1] at he;by_cases h2:(2:Int)=e
    ·omega
    ·rw [if_neg h2] at he;exact absurd rfl he
  ·simp only [cfL];split<;>split<;>omega
  ·have h1:=hb (e+2);have h2:=hb (e-2);unfold cS;omega
  ·have:=hd lf
   have e1:fv [((-2:Int),(-1:Int)),(2,-1)]=2:=rfl;have e2:aS [((-2:Int),(-1:Int)),(2,-1)]= -2:=rfl;rw [e1,e2,show ([((-2:Int),(-1:Int)),(2,-1)]:List (Int×Int)).length=2 from rfl];omega
 ·obtain rfl:p=[]:=List.length_eq_zero_iff.1 (by omega);refine ⟨[],bZ.nil.congr fun e=>?_,Q8 _⟩;have h1:=hp.cf (e+2);have h2:=hp.cf (e-2);simp only [cfL] at h1 h2;unfold cS;rw [←h1,←h2];rfl
def dN (f:Int->Int):List (Int×Int):=tmI (-1000) ((List.range 2001).map fun (i:Nat)=>f ((i:Int)-1000))
theorem pH {f:Int->Int} (hs: ∀e,f e≠0-> -1000<=e/\e<=1000):bZ (dN f) f:=by
 refine ⟨GO _ _,fun e=>?_⟩;unfold dN;rw [C3];by_cases h0:f e=0
 ·rw [h0]
  split
  ·by_cases h1:(e- -1000).toNat<2001
   ·simp only [List.getD_eq_getElem?_getD,List.getElem?_map,List.getElem?_range h1,Option.map_some,Option.getD_some];rw [show (((e- -1000).toNat:Nat):Int)-1000=e by omega,h0]
   ·rw [List.getD_eq_getElem?_getD,List.getElem?_eq_none (by simp;omega)];rfl
  ·rfl
 ·have:=hs e h0
  rw [if_pos (by omega)];have h1:(e- -1000).toNat<2001:=by omega
  simp only [List.getD_eq_getElem?_getD,List.getElem?_map,List.getElem?_range h1,Option.map_some,Option.getD_some];rw [show (((e- -1000).toNat:Nat):Int)-1000=e by omega]
theorem bZ.eq {p:List (Int×Int)} {f:Int->Int} (h:bZ p f) (hs: ∀e,f e≠0-> -1000<=e/\e<=1000):p=dN f:=
 b8.ext h.asc (pH hs).asc fun e=>by rw [h.cf,(pH hs).cf]
def gP (m:List Int) (n L:Nat):List (Int×Int):=dN (aU m n L 1)
theorem oW {m:List Int} {n L:Nat} (hp:aE m n) (hn:n<=9) (hL:L<=20) {j:Nat} (hj:1<=j) {e:Int} (he:aU m n L j e≠0): -1000<=e/\e<=1000:=by
 have h1:=uZ hp he;have h2:=qq hp (fun _=>true);have h3:=qq hp (fun _=>false);omega
theorem zm {m:List Int} {n L:Nat} (hp:aE m n) (hn:n<=9) (hL:L<=20) {j:Nat} (hj:1<=j) (e:Int): -70368744177664<=aU m n L j e/\aU m n L j e<=70368744177664:=by
 have h1:=NH hp (L:=L) (j:=j) (M:=37) (by omega) e;have h2:2^(37+n)<=2^46:=Nat.pow_le_pow_right (by omega) (by omega);omega
inductive lT:Fr->Fr->Prop
 |nil:lT [] []
 |cons {i:Nat} {x y:AV} {fr fr':Fr}:aR x y->lT fr fr'->lT ((i,x)::fr) ((i,y)::fr')
theorem lT.refl: ∀fr:Fr,lT fr fr
 |[]=> .nil
 |(_,x)::fr=> .cons (aR.refl x) (lT.refl fr)
theorem lT.get {fr fr':Fr} (h:lT fr fr') (t:Nat):aR (fget fr t) (fget fr' t):=by
 induction h with
 |nil=>exact aR.refl _
 |cons h1 _ ih=>
  simp only [fget]
  split
  ·exact h1
  ·exact ih
theorem Wk.le {fr fr':Fr} {H:Hp} (h:lT fr fr'):Wk fr H fr' H:=fun _ _ _ _ _ ρ _ hs=>⟨ρ,hs.tp fun t=>(h.get t).out _ _ _ _ _ (hs.frv t)⟩
theorem S6 (H:Hp) (i j:Nat):hget (H++[(i, .gone)]) j=match hget H j with|some o=>some o|none=>if i=j then some .gone else none:=by
 induction H with
 |nil=>simp [hget]
 |cons p H ih=>
  obtain ⟨k,o⟩:=p;rw [List.cons_append];simp only [hget];by_cases e:k=j
  ·rw [if_pos e,if_pos e]
  ·rw [if_neg e,if_neg e];exact ih
theorem Wk.gone {fr:Fr} {H:Hp} (i:Nat) (h:hget H i=none):Wk fr H fr (H++[(i, .gone)]):=by
 intro B w0 Mx N w ρ a hs;have up: ∀j o,hget H j=some o->hget (H++[(i, .gone)]) j=some o:=fun j o hj=>by rw [S6,hj]
 have dn: ∀j o,hget (H++[(i, .gone)]) j=some o->o= .gone\/hget H j=some o:=fun j o hj=>by
  rw [S6] at hj;cases hq:hget H j with
  |some o'=>rw [hq] at hj;exact .inr hj
  |none=>
   rw [hq] at hj;simp only at hj
   split at hj
   ·cases hj;exact .inl rfl
   ·cases hj
 have dl: ∀j o,hget (H++[(i, .gone)]) j=some o->o.live=true->hget H j=some o:=fun j o hj hl=>by
  rcases dn j o hj with rfl|h2
  ·cases hl
  ·exact h2
 have hM: ∀b,¬MM Mx H ρ b-> ¬MM Mx (H++[(i, .gone)]) ρ b:=fun b hn hm=>hn (by
  rcases hm with h1|⟨id,o,h1,h2,h3⟩
  ·exact .inl h1
  ·exact .inr ⟨id,o,dl id o h1 h2,h2,h3⟩)
 have hc: ∀{v:Value} {x:AV},VR w (MM Mx H ρ) ρ (DD H) v x->VR w (MM Mx (H++[(i, .gone)]) ρ) ρ (DD (H++[(i, .gone)])) v x:=fun hv=>
  hv.carry (Nat.le_refl _) (fun b _ hm=>⟨rfl,hM b hm⟩) (fun id hd=>⟨let ⟨o,ho⟩:=hd;⟨o,up id o ho⟩,rfl,fun arr t ha=>⟨arr,ha,rfl⟩⟩)
 refine ⟨ρ,hs.below,hs.hB,hs.mx,fun id o h1 h2=>hs.own id o (dl id o h1 h2) h2,fun id o h1=>?_,fun id o bX o' h1 h2 h3 h4 h5=>hs.inj id o bX o' (dl _ _ h1 h2) h2 (dl _ _ h3 h4) h4 h5,fun t=>hc (hs.frv t),hs.defers,hs.size⟩;rcases dn id o h1 with rfl|h2
 ·trivial
 have hr:=hs.objs id o h2;cases o with
 |gone=>trivial
 |cells t c=>
  obtain ⟨g1,arr,g2,g3,g4⟩:=hr;exact ⟨g1,arr,g2,g3,fun j hj=>let ⟨u,hu,hv⟩:=g4 j hj;⟨u,hu,hc hv⟩⟩
 |gmap t ck l=>
  obtain ⟨es,g1,g2,g3⟩:=hr;exact ⟨es,g1,g2,fun j e' q he hl=>let ⟨k1,k2,k3⟩:=g3 j e' q he hl;⟨k1,k2,hc k3⟩⟩
 |iter mid s sn la=>
  obtain ⟨g1,g2,g3⟩:=hr;obtain ⟨om,rN⟩:=g1;exact ⟨⟨om,up mid om rN⟩,g2,g3⟩
 |imap t l=>
  obtain ⟨g0,es,ck,g1,g2,g3⟩:=hr;exact ⟨g0,es,ck,g1,g2,fun j e' k x he hl=>let ⟨k1,k2,k3⟩:=g3 j e' k x he hl;⟨k1,hc k2,k3⟩⟩
 |fmap t c=>exact hr
set_option maxHeartbeats 8000000
theorem Mj (lo:Int) (cs:List Int) (hl:cs.length<=1000000) (hm:mxN cs<=1125899906842624):Fn Tryz.prog 147 [tpA lo cs] (.bool false):=by
 refine Fn.aq [.tmp 2] Tryz.func147 rfl rfl (by decide) (by simp [Tryz.ntmps147]) ?_;rw [Tryz.ntmps147]
 repeat' (first|omega|(try apply ag);simp only [go_sem,sevalprocAttr]|apply ah<;>(intro h_;(try simp only [h_]);revert h_)|apply ai|apply aj|apply ae|apply And.intro|with_reducible intro h_|trivial|simp only [go_sem,ak];omega)
 refine bV.intro (fun n fr H=> ∃k:Nat,k<=cs.length/\n=cs.length-k/\fr=[(8,I k),(7,I cs.length),(6,roI cs)]/\H=[]) ?_ ?_
 ·refine ⟨_,_,_,?_,0,by omega,rfl,rfl,rfl⟩;refine Wk.sub ?_ ?_<;>simp only [go_sem,sevalprocAttr]
 rintro n fr H ⟨k,hk,rfl,rfl,rfl⟩;by_cases bN:k<cs.length
 ·have bk:decide ((k:Int)<cs.length)=true:=by simp;omega
  have hc:=xg cs k;have b1:decide (1125899906842624<cs.getD k 0)=false:=by rw [decide_eq_false_iff_not];omega
  have b2:decide (cs.getD k 0< -1125899906842624)=false:=by rw [decide_eq_false_iff_not];omega
  repeat' (first|omega|(try apply ag);simp only [go_sem,sevalprocAttr,bk,b1,b2]|apply ah<;>(intro h_;(try simp only [h_]);revert h_)|apply ai|apply aj|apply ae|apply And.intro|with_reducible intro h_|trivial|simp only [go_sem,ak];omega)
  refine ⟨_,_,_,?_,?_,k+1,by omega,rfl,rfl,rfl⟩
  ·omega
  ·refine Wk.sub ?_ ?_<;>simp only [go_sem,sevalprocAttr]
 ·obtain rfl:k=cs.length:=by omega
  have bk:decide ((cs.length:Int)<cs.length)=false:=by simp
  repeat' (first|omega|(try apply ag);simp only [go_sem,sevalprocAttr,bk]|apply ah<;>(intro h_;(try simp only [h_]);revert h_)|apply ai|apply aj|apply ae|apply And.intro|with_reducible intro h_|trivial|simp only [go_sem,ak];omega)
  all_goals exact aR.refl _
theorem S5 (H:Hp): ∀(G:List PE) (i:Nat),(∀k g,G[k]?=some g->hget H (i+k+10)=some (.cells 3 (.ints g.cs)))->hsel H ((List.range' i G.length).map (· +10))=eX i G
 |[],_,_=>rfl
 |g::G,i,h=>by
  have h0:=h 0 g rfl;rw [Nat.add_zero] at h0;simp only [List.length_cons,List.range'_succ,List.map_cons,hsel,h0,eX];rw [S5 H G (i+1) fun k g' hk=>by rw [show i+1+k+10=i+(k+1)+10 by omega];exact h (k+1) g' hk]
def plP (o:List Nat):Nat->List Nat
 |0=>[]
 |k+1=>o.getD k 0::plP o k
def fS (m:List Int) (o:List Nat):Nat->List Int
 |0=>[]
 |k+1=>aP m (fS m o k) (o.getD k 0)
theorem xE {o:List Nat} {k:Nat} (h:k<o.length):o.drop k=o.getD k 0::o.drop (k+1):=by
 rw [List.getD_eq_getElem?_getD,List.getElem?_eq_getElem h,Option.getD_some];exact List.drop_eq_getElem_cons h
theorem BB {m:List Int} {n:Nat} (hp:aE m n) {o:List Nat} (hn:o.Nodup) (hl:o.length=n) (hr: ∀c∈o,c<n): ∀k,k<=n->sa m n (plP o k) (fS m o k) (o.drop k)/\(fS m o k).length<=4*k
 |0,_=>⟨sa.init hn hl hr,by simp [fS]⟩
 |k+1,hk=>by
  obtain ⟨h1,h2⟩:=BB hp hn hl hr k (by omega);rw [xE (by omega)] at h1;have h3:=h1.dj _ (List.mem_cons_self ..);have h4:=Ru hp h1.he h3.2 h3.1;refine ⟨h1.step hp,?_⟩;simp only [fS];omega
structure nr (m:List Int) (n:Nat) (o:List Nat) (k:Nat) (sd:List PE):Prop where
 ok:sc (fS m o k).length (k:Int) (2+200*(k:Int)) sd
 len:sd.length<=2^k
 pos:1<=sd.length
 va: ∀e,sumG (qx m (o.drop k) (fS m o k) e) sd=aU m n 0 1 e
 nu:eW (ld m (o.drop k) (fS m o k)) sd<=2^(3*n)
theorem nr.init {m:List Int} {n:Nat} (hp:aE m n) {o:List Nat} (hn:o.Nodup) (hl:o.length=n) (hr: ∀c∈o,c<n) (jM:0<n):nr m n o 0 [⟨pS [],0,[1]⟩]:=by
 have hd:dK (pS [])=[]:=CK (by simp);refine ⟨⟨by simp [l5],fun g hg=>?_,fun g hg=>?_,fun g hg=>?_,fun g hg=>?_⟩,by simp,by simp,fun e=>?_,?_⟩
 ·simp only [List.mem_cons,List.not_mem_nil,or_false] at hg;subst hg;dsimp only;rw [hd];exact ⟨rfl,rfl,fun x hx=>by simp [fS] at hx,fun x hx=>by simp [fS] at hx,fun x hx=>by simp [fS] at hx⟩
 ·simp only [List.mem_cons,List.not_mem_nil,or_false] at hg;subst hg;simp
 ·simp only [List.mem_cons,List.not_mem_nil,or_false] at hg;subst hg;simp
 ·simp only [List.mem_cons,List.not_mem_nil,or_false] at hg;subst hg;simp
 ·rw [←Ny hp hn hl hr jM e];simp only [sumG,qx,hd,List.drop_zero,fS,Int.add_zero];refine u7 m o [] [] (fun x=>?_) e;unfold jc;by_cases h0:x=0
  ·subst h0;rfl
  ·rw [if_neg h0]
   split
   ·rename_i h
    have:(x-0)/2≠0:=by omega
    obtain ⟨j,hj⟩: ∃j,((x-0)/2).toNat=j+1:=⟨((x-0)/2).toNat-1,by omega⟩;rw [hj];rfl
   ·rfl
 ·simp only [eW,ld,hd,List.drop_zero,fS,mxN]
  have:=Y8 hp hn hl hr
  simpa using this
structure jz (m:List Int) (n:Nat) (o:List Nat) (k:Nat) (sd:List PE) (sn:List Nat) (G:List PE):Prop where
 nd:sn.Nodup
 rg: ∀i∈sn,i<sd.length
 ok:sc (fS m o (k+1)).length ((k:Int)+1) (2+200*(k:Int)+200) G
 len:G.length<=2*sn.length
 pos:sn≠[]->1<=G.length
 va: ∀e,sumG (qx m (o.drop (k+1)) (fS m o (k+1)) e) G=(sn.map fun i=>qx m (o.drop k) (fS m o k) e (sd.getD i ⟨ByteArray.empty,0,[]⟩)).sum
 nu:eW (ld m (o.drop (k+1)) (fS m o (k+1))) G<=(sn.map fun i=>ld m (o.drop k) (fS m o k) (sd.getD i ⟨ByteArray.empty,0,[]⟩)).sum
theorem jz.init (m:List Int) (n:Nat) (o:List Nat) (k:Nat) (sd:List PE):jz m n o k sd [] []:=
 ⟨by simp,by simp,sc.nil _ _ _,by simp,by simp,fun e=>rfl,by simp [eW]⟩
theorem NZ (l:List Int) (x:Int):(l++[x]).sum=l.sum+x:=by rw [List.sum_append_int];simp
theorem Sq (F:PE->Int) (d:PE): ∀(sd:List PE),((List.range sd.length).map fun i=>F (sd.getD i d)).sum=sumG F sd
 |[]=>rfl
 |g::sd=>by
  rw [List.length_cons,List.range_succ_eq_map,List.map_cons,List.map_map,List.sum_cons]
  have:=Sq F d sd
  simp only [sumG,←this];rfl
theorem KH (F:PE->Nat) (d:PE): ∀(sd:List PE),((List.range sd.length).map fun i=>F (sd.getD i d)).sum=eW F sd
 |[]=>rfl
 |g::sd=>by
  rw [List.length_cons,List.range_succ_eq_map,List.map_cons,List.map_map,List.sum_cons]
  have:=KH F d sd
  simp only [eW,←this];rfl
theorem S4 {l k:List Nat} (h:l.Perm k):l.sum=k.sum:=by
 induction h with
 |nil=>rfl
 |cons x _ ih=>simp only [List.sum_cons,ih]
 |swap x y l=>simp only [List.sum_cons];omega
 |trans _ _ h1 h2=>rw [h1,h2]
theorem Y6 {sn:List Nat} {N:Nat} (hn:sn.Nodup) (hr: ∀i∈sn,i<N) (ha: ∀i,i<N->i∈sn):sn.Perm (List.range N):=
 (List.perm_ext_iff_of_nodup hn List.nodup_range).2 fun a=>⟨fun h=>List.mem_range.2 (hr a h),fun h=>ha a (List.mem_range.1 h)⟩
section
variable {m:List Int} {n:Nat} (hp:aE m n) {o:List Nat} (hn:o.Nodup) (hl:o.length=n) (hr: ∀c∈o,c<n) (wG:n<=14)
include hp hn hl hr wG
theorem jz.step {k:Nat} (hk:k<n) {sd:List PE} (hS:nr m n o k sd) {sn:List Nat} {G:List PE} (h:jz m n o k sd sn G) {i:Nat} {g:PE} (hi:sd[i]?=some g) (yn:i∉sn):jz m n o k sd (sn++[i]) (sT m (o.getD k 0) (spN (o.drop (k+1))) (fS m o k) G g):=by
 obtain ⟨s1,s2⟩:=BB hp hn hl hr k (by omega);have s3:=(BB hp hn hl hr (k+1) (by omega)).2;rw [xE (by omega)] at s1;have hd:=s1.dj _ (List.mem_cons_self ..);have hg:g∈sd:=List.mem_of_getElem? hi;have hgo:=hS.ok.ok g hg;have e1:fS m o (k+1)=aP m (fS m o k) (o.getD k 0):=rfl;have Am:sd.getD i ⟨ByteArray.empty,0,[]⟩=g:=by rw [List.getD_eq_getElem?_getD,hi];rfl
 have hex:=N3 m (o.getD k 0) (spN (o.drop (k+1))) (fS m o k) G g;have cZ:=h.ok;rw [e1] at cZ s3;refine ⟨?_,fun j hj=>?_,?_,?_,fun _=>hex.2,fun e=>?_,?_⟩
 ·rw [List.nodup_append];refine ⟨h.nd,by simp,fun x hx y hy e=>?_⟩;simp only [List.mem_cons,List.not_mem_nil,or_false] at hy;exact yn (hy▸e▸hx)
 ·rcases List.mem_append.1 hj with hj|hj
  ·exact h.rg j hj
  ·simp only [List.mem_cons,List.not_mem_nil,or_false] at hj;subst hj;exact (List.getElem?_eq_some_iff.1 hi).1
 ·rw [e1];exact ML hp s1.he hd.2 hd.1 (by omega) (by omega) hgo.2 (hS.ok.pr g hg) (hS.ok.rg g hg) (hS.ok.ne g hg) _ cZ
 ·have:=h.len
  simp only [List.length_append,List.length_cons,List.length_nil];omega
 ·rw [e1,Mn hp s1.he hd.2 hd.1 (by omega) (by omega) hgo.2 (hS.ok.pr g hg) _ (hS.ok.rg g hg) (hS.ok.ne g hg) cZ e];rw [List.map_append,List.map_cons,List.map_nil,NZ,Am,←h.va e,e1,xE (show k<o.length by omega)]
 ·have h1:=Mm hp s1.he hd.2 hd.1 (by omega) (by omega) hgo.2 G (o.drop (k+1)) (spN (o.drop (k+1)));have h2:=h.nu;rw [e1] at h2⊢;rw [List.map_append,List.map_cons,List.map_nil,List.sum_append,Am,xE (show k<o.length by omega)];rw [xE (show k<o.length by omega)] at h2;simp only [List.sum_cons,List.sum_nil,Nat.add_zero];omega
omit hp hn hl hr wG in
theorem jz.all {k:Nat} {sd:List PE} (hS:nr m n o k sd) {sn:List Nat} {G:List PE} (h:jz m n o k sd sn G) (ha: ∀i,i<sd.length->i∈sn):nr m n o (k+1) G:=by
 have hp:=Y6 h.nd h.rg ha;have cL:sn.length=sd.length:=by have:=hp.length_eq;simpa using this
 have hlen:=h.len;have hsd:=hS.len;have zU:=hS.pos;refine ⟨?_,by rw [Nat.pow_succ];omega,h.pos (fun e=>by rw [e] at cL;simp at cL;omega),fun e=>?_,?_⟩
 ·have e2:2+200*((k+1:Nat):Int)=2+200*(k:Int)+200:=by omega
  rw [e2,show ((k+1:Nat):Int)=(k:Int)+1 by omega];exact h.ok
 ·rw [h.va e,KX (hp.map _),Sq (fun g=>qx m (o.drop k) (fS m o k) e g)];exact hS.va e
 ·have h1:=h.nu;rw [S4 (hp.map _),KH (fun g=>ld m (o.drop k) (fS m o k) g)] at h1;exact Nat.le_trans h1 hS.nu
end
theorem xY {m:List Int} {r:List Nat} {ends:List Int} {G:List PE} {B:Nat} (h:eW (ld m r ends) G<=B) {g:PE} (hg:g∈G):mxN g.cs<=B:=by
 have h1:=KM (F:=ld m r ends) hg;have h2:=Gy m r ends (dK g.key);have h3:mxN g.cs*1<=ld m r ends g:=Nat.mul_le_mul_left _ h2;omega
theorem y2e (f:Nat->Nat) {sn:List Nat} {N:Nat} (hn:sn.Nodup) (hr: ∀i∈sn,i<N):(sn.map f).sum<=((List.range N).map f).sum:=by
 have hp:(sn++(List.range N).filter fun i=> !sn.contains i).Perm (List.range N):=by
  refine (List.perm_ext_iff_of_nodup ?_ List.nodup_range).2 fun a=>?_
  ·rw [List.nodup_append];refine ⟨hn,List.nodup_range.filter _,fun x hx y hy e=>?_⟩;subst e
   have:=(List.mem_filter.1 hy).2
   simp at this;exact this hx
  ·simp only [List.mem_append,List.mem_filter,List.mem_range];constructor
   ·rintro (h|h)
    ·exact hr a h
    ·exact h.1
   ·intro h;by_cases ha:a∈sn
    ·exact .inl ha
    ·exact .inr ⟨h,by simpa using ha⟩
 rw [←S4 (hp.map f),List.map_append,List.sum_append];omega
theorem jz.mx {m:List Int} {n:Nat} {o:List Nat} {k:Nat} {sd:List PE} (hS:nr m n o k sd) {sn:List Nat} {G:List PE} (h:jz m n o k sd sn G) {x:PE} (hx:x∈G):mxN x.cs<=2^(3*n):=by
 refine xY (Nat.le_trans h.nu (Nat.le_trans (y2e _ h.nd h.rg) ?_)) hx;rw [KH (fun g=>ld m (o.drop k) (fS m o k) g)];exact hS.nu
theorem Ea {m:List Int} {r:List Nat} {c:Nat} {ends:List Int} {g:PE} {B:Nat} (h:ld m (c::r) ends g<=B) (b:Bool):2^c6 m ends c (dK g.key) b*mxN g.cs<=B:=by
 have key:2^c6 m ends c (dK g.key) b<=nmR m (c::r) ends (dK g.key):=by
  have h0:=Gy m r (aP m ends c) (dG m ends c (dK g.key) false);have h1:=Gy m r (aP m ends c) (dG m ends c (dK g.key) true);have k0:=Nat.mul_le_mul_left (2^c6 m ends c (dK g.key) false) h0;have k1:=Nat.mul_le_mul_left (2^c6 m ends c (dK g.key) true) h1;simp only [nmR];cases b<;>omega
 have:=Nat.mul_le_mul_left (mxN g.cs) key
 rw [Nat.mul_comm];exact Nat.le_trans this h
theorem jz.bt {m:List Int} {n:Nat} {o:List Nat} {k:Nat} {sd:List PE} {sn:List Nat} {G:List PE} (h:jz m n o k sd sn G):sn.length<=sd.length:=by
 have:=te h.nd (k:=List.range sd.length) fun i hi=>List.mem_range.2 (h.rg i hi)
 simpa using this
theorem NY {sd:List PE} {sn:List Nat} {G:List PE} {F A:Fr} {H0:Hp} (hA: ∀q∈A,fget F q.1=q.2/\q.1<1000000/\s3 dF q.2=true) (hl: ∀t,1000000<=t->fget F t= .any) (hH: ∀i o,hget (br sd sn G) i=some o->hget H0 i=some o):Wk F H0 A (br sd sn G):=by
 have:=KJ (Gt (A:=A) (fr1:=[]) hA (fun t ht=>hl t ht) rfl) hH
 simpa [lft] using this
def D9:Hp:=(1000005, .gone)::dF
theorem Y5 {k:Nat} (h:(hget D9 k).isSome=true):k=1000005\/k=1\/k=2\/k=1000002\/k=1000003\/k=1000004:=by
 simp only [D9,hget] at h
 split at h
 ·omega
 ·exact .inr (BH h)
theorem NX {fr:Fr} {H:Hp} (h:fr.all (fun q=>s3 H q.2)=true) (t:Nat):fget fr t= .any\/s3 H (fget fr t)=true:=Gd h t
theorem X7 {F A:Fr} (hA: ∀q∈A,fget F q.1=q.2) (t:Nat):fget A t=fget F t\/fget A t= .any:=by
 induction A with
 |nil=>exact .inr rfl
 |cons q A ih=>
  obtain ⟨s,x⟩:=q;simp only [fget]
  split
  ·rename_i e;subst e;exact .inl (hA (s,x) (List.mem_cons_self ..)).symm
  ·exact ih fun q hq=>hA q (List.mem_cons_of_mem _ hq)
theorem Nq {sd:List PE} {sn:List Nat} {G:List PE} (hG:G.length<=900000) {F A:Fr} (hF:F.all (fun q=>s3 D9 q.2)=true) (hA: ∀q∈A,fget F q.1=q.2) (hs:A.all (fun q=>s3 [(1000005, .iter 1000002 G.length [] G.length),(1000003, .cells 152 (.lst [.mp 1000002])),(1000002, .gmap 152 G.length (fk 0 G)),(1, .cells 29 (.lst [.bool false, .nils])),(1000000, .gone)] q.2)=true):
  Wk F ((1000005, .iter 1000002 G.length [] G.length)::br sd sn G) A [(1000005, .iter 1000002 G.length [] G.length),(1000003, .cells 152 (.lst [.mp 1000002])),(1000002, .gmap 152 G.length (fk 0 G)),(1, .cells 29 (.lst [.bool false, .nils])),(1000000, .gone)]:=by
 have cD: ∀k,k<10\/1000000<=k->hget (eX 0 G) k=none:=fun k hk=>Sj (by omega);have h5: ∀k,(hget D9 k).isSome=true->hget (eX 0 G) k=none:=fun k hk=>cD k (by have:=Y5 hk;omega);have e:hsel ((1000005, .iter 1000002 G.length [] G.length)::br sd sn G) ((List.range' 0 G.length).map (· +10))=eX 0 G:=by
  refine S5 _ G 0 fun k g hk=>?_
  have:=(List.getElem?_eq_some_iff.1 hk).1
  simp only [hget]
  repeat rw [if_neg (by omega)]
  rw [show 0+k+10=k+10 by omega];exact dE hk
 have f1:=Wm h5 hF;have EF: ∀(X:List PE) (i:Nat),(∀k g,X[k]?=some g->G[i+k]?=some g)->ydp (eX 0 G) (eX i X):=by
  intro X
  induction X with
  |nil=>exact fun _ _=>trivial
  |cons g X ih=>exact fun i hX=>⟨trivial,ih (i+1) fun k g hk=>by rw [show i+1+k=i+(k+1) by omega];exact hX (k+1) g hk⟩
 have h2:ydp (eX 0 G) ((1000005, .iter 1000002 G.length [] G.length)::br sd sn G):=by
  refine ⟨trivial,trivial,?_,?_,?_,?_,trivial,EF G 0 fun k g hk=>by rw [Nat.zero_add];exact hk⟩
  ·intro x hx;simp only [List.mem_cons,List.not_mem_nil,or_false] at hx;subst hx;trivial
  ·intro q hq;obtain ⟨k,g,hk,rfl⟩:=GG _ _ _ hq;have h0:=dE hk;simp only [bx,List.forall_mem_cons,show 0+k+10=k+10 by omega,h0,dr];refine ⟨trivial,?_,by simp⟩;simp [Cs.len]
  ·intro q hq;obtain ⟨k,g,hk,rfl⟩:=qu _ _ _ hq;simp only [bx,List.forall_mem_cons];exact ⟨trivial,trivial,by simp⟩
  ·intro x hx;simp only [List.mem_cons,List.not_mem_nil,or_false] at hx;rcases hx with rfl|rfl<;>trivial
 refine (Wk.ln _ (by rw [e];exact f1.1) (by rw [e];exact h2) rfl rfl).trans ?_;rw [e,f1.2];have qb:=Rz G G 0 fun k g hk=>by rw [Nat.zero_add];exact hk
 refine Wk.vY (fun t=>?_) fun i o' hi=>?_
 ·rcases NX hs t with h|h
  ·exact .inl h
  ·rcases X7 hA t with g|g
   ·exact .inr ⟨g,h⟩
   ·exact .inl g
 ·simp only [c9,frzO,cD 1000005 (by omega),cD 1000004 (by omega),cD 1000003 (by omega),cD 1000002 (by omega),cD 2 (by omega),cD 1 (by omega),cD 1000000 (by omega),qb];simp only [hget] at hi⊢
  split at hi
  ·rename_i e1;subst e1;cases hi;exact ⟨by simp,rfl⟩
  split at hi
  ·rename_i e1;subst e1;cases hi;exact ⟨by simp;rfl,rfl⟩
  split at hi
  ·rename_i e1;subst e1;cases hi
   refine ⟨by simp,List.all_eq_true.2 fun q hq=>?_⟩;obtain ⟨k,g,_,rfl⟩:=qu _ _ _ hq;rfl
  split at hi
  ·rename_i e1;subst e1;cases hi;exact ⟨by simp;exact ⟨rfl,rfl⟩,rfl⟩
  split at hi
  ·rename_i e1;subst e1;cases hi;exact ⟨by simp,rfl⟩
  ·cases hi
def gI:Tr:= .node [(0, .node [(1, .node [(2, .node [(3, .node [(4, .done)])]),(3, .node [(2, .node [(4, .done)])])]),(3, .node [(1, .node [(2, .node [(4, .done)])])])]),(1, .node [(0, .node [(2, .node [(3, .node [(4, .done)])]),(3, .node [(2, .node [(4, .done)])])]),(2, .node [(0, .node [(3, .node [(4, .done)])])])])]
abbrev OL (m ends:List Int) (c:Nat):Cs:= .lst [I ends.length,roI (bA m ends c),roI (dx m ends c),roI (aP m ends c)]
def fc (cs:List Int) (k:Nat):List Int:=(List.range (2*cs.length)).map fun i=>if i % 2=0/\i/2<k then cs.getD (i/2) 0 else 0
theorem BR (cs:List Int) (k:Nat):(fc cs k).length=2*cs.length:=by simp [fc]
theorem Mi (cs:List Int):fc cs 0=List.replicate (2*cs.length) 0:=by
 apply List.ext_getElem?;intro i;by_cases h:i<2*cs.length<;>simp [fc,h]
theorem y5t (cs:List Int) (k:Nat) (hk:k<cs.length):(fc cs k).set (2*k) (cs.getD k 0)=fc cs (k+1):=by
 apply List.ext_getElem?;intro i;rw [List.getElem?_set,BR];by_cases e:2*k=i
 ·subst e;rw [if_pos rfl,if_pos (by omega)];simp only [fc,List.getElem?_map,List.getElem?_range (show 2*k<2*cs.length by omega),Option.map_some];rw [if_pos (by omega),show 2*k/2=k by omega]
 ·rw [if_neg e];by_cases hi:i<2*cs.length
  ·simp only [fc,List.getElem?_map,List.getElem?_range hi,Option.map_some];by_cases h1:i % 2=0/\i/2<k
   ·rw [if_pos h1,if_pos (by omega)]
   ·rw [if_neg h1,if_neg (by omega)]
  ·simp [fc,hi]
theorem Mh (lo:Int) (cs:List Int) (e:Int):cfL (tmI lo (fc cs cs.length)) e=jc lo cs e:=by
 rw [C3];unfold jc;by_cases h:lo<=e
 ·rw [if_pos h];obtain ⟨j,hj⟩: ∃j:Nat,e=lo+j:=⟨(e-lo).toNat,by omega⟩;subst hj;rw [show (lo+(j:Int)-lo).toNat=j by omega,show ((lo+(j:Int)-lo)/2).toNat=j/2 by omega];by_cases h1:j<2*cs.length
  ·simp only [fc,List.getD_eq_getElem?_getD,List.getElem?_map,List.getElem?_range h1,Option.map_some,Option.getD_some];by_cases h2:j % 2=0
   ·rw [if_pos ⟨h2,by omega⟩,if_pos (by omega)]
   ·rw [if_neg fun g=>h2 g.1,if_neg (by omega)]
  ·rw [n8 (by rw [BR];omega)]
   split
   ·rw [n8 (by omega)]
   ·rfl
 ·rw [if_neg h,if_neg fun g=>h g.1]
theorem Np (HF:Hp) (sd:List PE):(fk 0 sd).map (fun q=>(q.1,q.2.1,bg HF 4 q.2.2))=fk 0 sd:=by
 conv=>rhs;rw [←List.map_id (fk 0 sd)]
 exact List.map_congr_left fun q hq=>by obtain ⟨k,g,_,rfl⟩:=qu _ _ _ hq;rfl
theorem Y4 (HF:Hp) (sd:List PE):(∀q∈fk 0 sd,bx HF 4 q.2.2)=True:=by
 rw [eq_iff_iff,iff_true];intro q hq;obtain ⟨k,g,_,rfl⟩:=qu _ _ _ hq;simp only [bx,List.forall_mem_cons];exact ⟨trivial,trivial,by simp⟩
theorem CM (H:Hp) (sd:List PE):(fk 0 sd).all (fun q=>s3 H q.2.2)=true:=List.all_eq_true.2 fun q hq=>by obtain ⟨k,g,_,rfl⟩:=qu _ _ _ hq;rfl
theorem U7 (sd:List PE): ∀q∈fk 0 sd,q.2.1<sd.length:=fun q hq=>by
 obtain ⟨k,g,hk,rfl⟩:=qu _ _ _ hq
 have:=(List.getElem?_eq_some_iff.1 hk).1
 simp only;omega
theorem Y3 {sd:List PE} (hk:l5 sd) {i:Nat} {g:PE} (h:sd[i]?=some g):lY (fk 0 sd) g.key=some (g.key,i,tpA g.lo g.cs):=by
 have key: ∀(G:List PE) (i j:Nat) (g:PE),l5 G->G[j]?=some g->lY (fk i G) g.key=some (g.key,i+j,tpA g.lo g.cs):=by
  intro G
  induction G with
  |nil=>intro i j g _ h;simp at h
  |cons a G ih=>
   intro i j g hk h
   match j,h with
   |0,h=>
    simp only [List.getElem?_cons_zero,Option.some.injEq] at h;subst h;simp [lY,fk]
   |j+1,h=>
    simp only [List.getElem?_cons_succ] at h;unfold l5 at hk;rw [List.map_cons,List.nodup_cons] at hk;have az:a.key≠g.key:=fun e=>hk.1 (e▸List.mem_map.2 ⟨g,List.mem_of_getElem? h,rfl⟩)
    have:=ih (i+1) j g hk.2 h
    unfold lY at this⊢;simp only [fk,List.find?_cons];rw [show decide (a.key=g.key)=false by simpa using az,this];simp only [show i+1+j=i+(j+1) by omega]
 have:=key sd 0 i g hk h
 rwa [Nat.zero_add] at this
theorem S3 {sd:List PE} {i:Nat} {g:PE} (h:sd[i]?=some g):List.find? (fun q=>q.2.1==i) (fk 0 sd)=some (g.key,i,tpA g.lo g.cs):=by
 have key: ∀(G:List PE) (a j:Nat) (g:PE),G[j]?=some g->List.find? (fun q=>q.2.1==a+j) (fk a G)=some (g.key,a+j,tpA g.lo g.cs):=by
  intro G
  induction G with
  |nil=>intro a j g h;simp at h
  |cons b G ih=>
   intro a j g h
   match j,h with
   |0,h=>
    simp only [List.getElem?_cons_zero,Option.some.injEq] at h;subst h;simp [fk]
   |j+1,h=>
    simp only [List.getElem?_cons_succ] at h
    have:=ih (a+1) j g h
    simp only [fk,List.find?_cons];rw [show (a==a+(j+1))=false by simp,show a+(j+1)=a+1+j by omega];exact this
 have:=key sd 0 i g h
 rwa [Nat.zero_add] at this
theorem FC {F A:Fr} (hA: ∀q∈A,fget F q.1=q.2) (hs:A.all (fun q=>s3 dF q.2)=true) (t:Nat):fget A t= .any\/(fget A t=fget F t/\s3 dF (fget A t)=true):=by
 rcases Gd hs t with h|h
 ·exact .inl h
 ·rcases X7 hA t with g|g
  ·exact .inr ⟨g,h⟩
  ·exact .inl g
theorem U6 (i j:Nat) (sd:List PE):(fk 0 sd).map (fun q=>(q.1,q.2.1,swV i j 4 q.2.2))=fk 0 sd:=by
 conv=>rhs;rw [←List.map_id (fk 0 sd)]
 exact List.map_congr_left fun q hq=>by obtain ⟨k,g,_,rfl⟩:=qu _ _ _ hq;rfl
theorem Mg {m:List Int} {n:Nat} {o:List Nat} {sd:List PE} (h:nr m n o n sd) (he:fS m o n=[]) (ho:o.drop n=[]): ∃g:PE,sd=[g]/\g.key=pS []/\(∀e,jc g.lo g.cs e=aU m n 0 1 e):=by
 have hk: ∀g∈sd,g.key=pS []:=fun g hg=>by
  obtain ⟨h1,h2⟩:=h.ok.ok g hg;rw [he] at h2;rw [h1,List.length_eq_zero_iff.1 h2.len]
 match sd,h,hk with
 |[],h,_=>have:=h.pos;simp at this
 |[g],h,hk=>
  refine ⟨g,rfl,hk g (List.mem_cons_self ..),fun e=>?_⟩
  have:=h.va e
  rw [ho] at this;simpa [sumG,qx,finR] using this
 |g::g'::r,h,hk=>
  have h1:=h.ok.nd;unfold l5 at h1;simp only [List.map_cons,List.nodup_cons,List.mem_cons,not_or] at h1;exact absurd ((hk g (List.mem_cons_self ..)).trans (hk g' (List.mem_cons_of_mem _ (List.mem_cons_self ..))).symm) h1.1.1
theorem Mf {m:List Int} {n:Nat} (hp:aE m n) (hn:n<=100) {e:Int} (he:aU m n 0 1 e≠0): -1000<=e/\e<=1000:=by
 have h1:=uZ hp he;have h2:=qq hp (fun _=>true);have h3:=qq hp (fun _=>false);omega
theorem Y2 (s m:List Int) (L:Int) (hp:aE m s.length) {o:List Nat} (hn:o.Nodup) (hl:o.length=s.length) (hr: ∀c∈o,c<s.length) (wG:s.length<=14) (jM:0<s.length):
  Fn Tryz.prog 90 [dgA s m L,roI (o.map (Nat.cast:Nat->Int))] (.tup [plA false (dN (aU m s.length 0 1)), .bool true]):=by
 have iX: ∀k,(o.map (Nat.cast:Nat->Int)).getD k 0=((o.getD k 0:Nat):Int):=fun k=>by
  simp only [List.getD_eq_getElem?_getD,List.getElem?_map];cases o[k]?<;>rfl
 have dd:(o.map (Nat.cast:Nat->Int)).length=s.length:=by rw [List.length_map,hl]
 obtain ⟨om,rN⟩: ∃om,o.map (Nat.cast:Nat->Int)=om:=⟨_,rfl⟩;rw [rN] at iX dd⊢;refine Fn.aq [.cell 4 29, .tmp 5] Tryz.func90 rfl rfl (by decide) (by simp [Tryz.ntmps90]) ?_;rw [Tryz.ntmps90]
 repeat' (first|omega|(try apply ag);simp only [go_sem,sevalprocAttr]|apply ah<;>(intro h_;(try simp only [h_]);revert h_)|apply ai|apply aj|apply ae|apply And.intro|with_reducible intro h_|trivial|simp only [go_sem,ak];omega)
 refine fb.insert (id:=2) (ob:= .gmap 152 1 [(⟨#[]⟩,0, .agg [I 0, .sl 1 3 0 1])]) rfl rfl (by simp only [go_sem,sevalprocAttr];rfl) ?_
 repeat' (first|omega|(try apply ag);simp only [go_sem,sevalprocAttr]|apply ah<;>(intro h_;(try simp only [h_]);revert h_)|apply ai|apply aj|apply ae|apply And.intro|with_reducible intro h_|trivial|simp only [go_sem,ak];omega)
 refine bV.intro (fun n' fr H=> ∃(k:Nat) (sd:List PE),k<=s.length/\nr m s.length o k sd/\n'=s.length-k/\fr=[(28,I k),(27,I s.length),(26,roI om),(7,roI (fS m o k)),(6, .mp 2),(4, .ptr 1 0),(2, .rp (.lst [roI s,roI m,I L]) 0),(1,roI om)]/\
  H=[(2, .gmap 152 sd.length (fk 0 sd)),(1, .cells 29 (.lst [.bool false, .nils])),(1000000, .gone)]) ?_ ?_
 ·refine ⟨_,_,_,?_,0,[⟨pS [],0,[1]⟩],by omega,nr.init hp hn hl hr jM,rfl,rfl,rfl⟩
  refine (Wk.ln [0,3] ?_ ?_ rfl rfl).trans ((Wk.sub (fr':=[(28,I (0:Nat)),(27,I s.length),(26,roI om),(7, .nils),(6, .mp 2),(4, .ptr 1 0),(2, .rp (.lst [roI s,roI m,I L]) 0),(1,roI om)]) (H':=[(2, .gmap 152 1 (fk 0 [⟨pS [],0,[1]⟩])),(1, .cells 29 (.lst [.bool false, .nils]))]) ?_ ?_).trans ((Wk.le ?_).trans (Wk.gone 1000000 rfl)))
  ·simp only [go_sem,sevalprocAttr]
  ·simp only [go_sem,sevalprocAttr]
  ·simp only [go_sem,sevalprocAttr,dd]
  ·(simp only [go_sem,sevalprocAttr,fk])<;>rfl
  ·exact .cons (aR.refl _) (.cons (aR.refl _) (.cons (aR.refl _) (.cons (aR.nils (by decide) rfl) (lT.refl _))))
 rintro n' fr H ⟨k,sd,hk,hS,rfl,rfl,rfl⟩;by_cases wI:k<s.length
 ·have bk:decide ((k:Int)<s.length)=true:=by simp;omega
  obtain ⟨s1,s2⟩:=BB hp hn hl hr k (by omega);have s3:=(BB hp hn hl hr (k+1) (by omega)).2;rw [xE (by omega)] at s1;have s4:(aP m (fS m o k) (o.getD k 0)).length<=4*(k+1):=s3;have hd:=s1.dj _ (List.mem_cons_self ..);have Pw:=MV s m L (fS m o k) (o.getD k 0) (by omega) hp.ok hd.2 (by omega) (fun i hi=>by
   have:=(s1.he.at hi).1
   unfold au at this;exact this)
  have E5:=iX k
  repeat' (first|omega|(first|apply ag|(refine an.intro (id:=21) [[67,68],[66,6],[66,6],[67,68],[]] [[],[0],[0],[1,2],[]] (by decide+kernel) mixed ?_)|(refine an.aB (id:=21) (gI) (by decide+kernel) mixed ?_)|skip);simp only [go_sem,sevalprocAttr,bk,E5,dd,Int.toNat_natCast,↓reduceIte,reduceCtorEq,gI]|apply ah<;>(intro h_;(try simp only [h_]);revert h_)|apply ai|apply aj|apply ae|apply And.intro|with_reducible intro h_|trivial|simp only [go_sem,ak];omega)
  refine ⟨aA.fn rfl Pw ?_⟩;have Ps:(((k:Int)==(s.length:Int)-1)=true/\spN (o.drop (k+1))=1)\/(((k:Int)==(s.length:Int)-1)=false/\spN (o.drop (k+1))=0):=by
   by_cases iP:k=s.length-1
   ·left;refine ⟨by simp;omega,?_⟩;rw [List.drop_eq_nil_of_le (by omega)];rfl
   ·right;refine ⟨by simp;omega,?_⟩;rw [xE (show k+1<o.length by omega)];rfl
  have wQ:=Np;have vv:=Y4;have po:=CM;rcases Ps with ⟨b1,eZ⟩|⟨b1,eZ⟩
  all_goals (
   repeat' (first|omega|(first|apply ag|(refine an.intro (id:=21) [[67,68],[66,6],[66,6],[67,68],[]] [[],[0],[0],[1,2],[]] (by decide+kernel) mixed ?_)|(refine an.aB (id:=21) (gI) (by decide+kernel) mixed ?_)|skip);simp only [go_sem,sevalprocAttr,b1,dd,↓reduceIte,reduceCtorEq,gI]|apply ah<;>(intro h_;(try simp only [h_]);revert h_)|apply ai|apply aj|apply ae|apply And.intro|with_reducible intro h_|trivial|simp only [go_sem,ak];omega)
   refine fb.range (kt:=9) (et:=151) (mid:=2) rfl rfl (by simp only [go_sem,sevalprocAttr]) rfl rfl ?_
   repeat' (first|omega|(first|apply ag|(refine an.intro (id:=21) [[67,68],[66,6],[66,6],[67,68],[]] [[],[0],[0],[1,2],[]] (by decide+kernel) mixed ?_)|(refine an.aB (id:=21) (gI) (by decide+kernel) mixed ?_)|skip);simp only [go_sem,sevalprocAttr,b1,dd,↓reduceIte,reduceCtorEq,gI]|apply ah<;>(intro h_;(try simp only [h_]);revert h_)|apply ai|apply aj|apply ae|apply And.intro|with_reducible intro h_|trivial|simp only [go_sem,ak];omega)
   refine bV.intro (fun n' fr H=> ∃(sn:List Nat) (G:List PE),jz m s.length o k sd sn G/\n'=sd.length-sn.length/\fr=[(45, .ptr 1000004 0),(13, .fn 144 [.ptr 1000003 0]),(12, .ptr 1000003 0),(11,I (spN (o.drop (k+1)))),(10, .rp (OL m (fS m o k) (o.getD k 0)) 0),(28,I k),(27,I s.length),(26,roI om),(4, .ptr 1 0),(2, .rp (.lst [roI s,roI m,I L]) 0),(1,roI om)]/\
    H=br sd sn G) ?_ ?_
   ·refine ⟨_,_,_,(Wk.ln [1000001] ?_ ?_ rfl rfl).trans (Wk.sub ?_ ?_),[],[],jz.init m s.length o k sd,rfl,rfl,rfl⟩
    ·simp only [go_sem,sevalprocAttr]
    ·simp only [go_sem,sevalprocAttr,vv]
    ·(simp only [go_sem,sevalprocAttr,wQ,eZ,dd])<;>rfl
    ·refine ⟨by simp only [go_sem,sevalprocAttr,wQ],rfl,by simp only [go_sem,sevalprocAttr,wQ],rfl,by (simp only [go_sem,sevalprocAttr,wQ])<;>rfl,rfl,by simp only [go_sem,sevalprocAttr,wQ],CM _ sd,by simp only [go_sem,sevalprocAttr,wQ],rfl,by simp only [go_sem,sevalprocAttr,wQ],rfl,trivial⟩
   rintro n' fr H ⟨sn,G,hM,rfl,rfl,rfl⟩
   repeat' (first|omega|(first|apply ag|(refine an.intro (id:=21) [[67,68],[66,6],[66,6],[67,68],[]] [[],[0],[0],[1,2],[]] (by decide+kernel) mixed ?_)|(refine an.aB (id:=21) (gI) (by decide+kernel) mixed ?_)|skip);simp only [go_sem,sevalprocAttr,dd,↓reduceIte,reduceCtorEq,gI]|apply ah<;>(intro h_;(try simp only [h_]);revert h_)|apply ai|apply aj|apply ae|apply And.intro|with_reducible intro h_|trivial|simp only [go_sem,ak];omega)
   refine fb.next (iid:=1000004) (mid:=2) rfl rfl rfl rfl rfl (U7 sd) (Nat.le_refl _) (fun cE=>?_) (fun q hq EJ=>?_)
   ·have Fp:=hM.all hS fun i hi=>by
     have:=cE _ (VG sd 0 i _ (List.getElem?_eq_getElem hi))
     simpa using this
    have XY:G.length<=900000:=by
     have h1:=hM.len;have h2:=hM.bt;have h3:=hS.len;have h4:2^k<=2^14:=Nat.pow_le_pow_right (by omega) (by omega);omega
    have j9:max 1000001 (hnew (eX 0 G))=1000001:=by have:=s9 G 0;omega
    repeat' (first|omega|(first|apply ag|(refine an.intro (id:=21) [[67,68],[66,6],[66,6],[67,68],[]] [[],[0],[0],[1,2],[]] (by decide+kernel) mixed ?_)|(refine an.aB (id:=21) (gI) (by decide+kernel) mixed ?_)|skip);simp only [go_sem,sevalprocAttr,dd,↓reduceIte,reduceCtorEq,gI]|apply ah<;>(intro h_;(try simp only [h_]);revert h_)|apply ai|apply aj|apply ae|apply And.intro|with_reducible intro h_|trivial|simp only [go_sem,ak];omega)
    refine fb.range (kt:=9) (et:=151) (mid:=1000002) rfl rfl (by simp only [go_sem,sevalprocAttr]) rfl rfl ?_
    repeat' (first|omega|(first|apply ag|(refine an.intro (id:=21) [[67,68],[66,6],[66,6],[67,68],[]] [[],[0],[0],[1,2],[]] (by decide+kernel) mixed ?_)|(refine an.aB (id:=21) (gI) (by decide+kernel) mixed ?_)|skip);simp only [go_sem,sevalprocAttr,j9,dd,↓reduceIte,reduceCtorEq,gI]|apply ah<;>(intro h_;(try simp only [h_]);revert h_)|apply ai|apply aj|apply ae|apply And.intro|with_reducible intro h_|trivial|simp only [go_sem,ak];omega)
    refine bV.intro (fun n' fr H=> ∃tm:List Nat,tm.Nodup/\(∀i∈tm,i<G.length)/\n'=G.length-tm.length/\fr=[(58, .ptr 1000005 0),(12, .ptr 1000003 0),(10, .rp (OL m (fS m o k) (o.getD k 0)) 0),(28,I k),(27,I s.length),(26,roI om),(4, .ptr 1 0),(2, .rp (.lst [roI s,roI m,I L]) 0),(1,roI om)]/\H=[(1000005, .iter 1000002 G.length tm G.length),(1000003, .cells 152 (.lst [.mp 1000002])),(1000002, .gmap 152 G.length (fk 0 G)),(1, .cells 29 (.lst [.bool false, .nils])),(1000000, .gone)]) ?_ ?_
    ·refine ⟨_,_,_,Nq XY ?_ ?_ ?_,[],by simp,by simp,rfl,rfl,rfl⟩
     ·simp only [go_sem,sevalprocAttr,D9,dF,dd]
     ·simp only [go_sem,sevalprocAttr,List.forall_mem_cons,dd]
     ·simp only [go_sem,sevalprocAttr,dd]
    rintro n' fr H ⟨tm,EM,EI,rfl,rfl,rfl⟩;have hsl2:tm.length<=G.length:=by
     have:=te EM (k:=List.range G.length) fun i hi=>List.mem_range.2 (EI i hi)
     simpa using this
    repeat' (first|omega|(first|apply ag|(refine an.intro (id:=21) [[67,68],[66,6],[66,6],[67,68],[]] [[],[0],[0],[1,2],[]] (by decide+kernel) mixed ?_)|(refine an.aB (id:=21) (gI) (by decide+kernel) mixed ?_)|skip);simp only [go_sem,sevalprocAttr,dd,↓reduceIte,reduceCtorEq,gI]|apply ah<;>(intro h_;(try simp only [h_]);revert h_)|apply ai|apply aj|apply ae|apply And.intro|with_reducible intro h_|trivial|simp only [go_sem,ak];omega)
    refine fb.next (iid:=1000005) (mid:=1000002) rfl rfl rfl rfl rfl (U7 G) (Nat.le_refl _) (fun XM=>?_) (fun q hq EJ=>?_)
    ·repeat' (first|omega|(first|apply ag|(refine an.intro (id:=21) [[67,68],[66,6],[66,6],[67,68],[]] [[],[0],[0],[1,2],[]] (by decide+kernel) mixed ?_)|(refine an.aB (id:=21) (gI) (by decide+kernel) mixed ?_)|skip);simp only [go_sem,sevalprocAttr,dd,↓reduceIte,reduceCtorEq,gI]|apply ah<;>(intro h_;(try simp only [h_]);revert h_)|apply ai|apply aj|apply ae|apply And.intro|with_reducible intro h_|trivial|simp only [go_sem,ak];omega)
     any_goals exact CM [(1000005, .iter 1000002 G.length tm G.length),(1000003, .cells 152 (.lst [.mp 1000002])),(1000002, .gmap 152 G.length (fk 0 G)),(1, .cells 29 (.lst [.bool false, .nils])),(1000000, .gone)] G
     refine ⟨_,_,_,?_,?_,k+1,G,by omega,Fp,rfl,rfl,rfl⟩
     ·omega
     ·refine Wk.zA (fr1:=[(28,I ((k+1:Nat):Int)),(27,I s.length),(26, .ro 1 s.length (.ints om)),(7,roI (fS m o (k+1))),(6, .mp 1000002),(4, .ptr 1 0),(2, .rp (.lst [roI s,roI m,I L]) 0),(1, .ro 1 s.length (.ints om))]) (H1:=[(1000002, .gmap 152 G.length (fk 0 G)),(1, .cells 29 (.lst [.bool false, .nils])),(1000000, .gone)]) 1000002 2 ?_ ?_ ?_ ?_ ?_ ?_
      ·rfl
      ·simp only [swH,swO,U6,List.map_cons,List.map_nil];rfl
      ·rfl
      ·simp only [swH,swO,U6,List.map_cons,List.map_nil];rfl
      ·(simp only [go_sem,sevalprocAttr,dd])<;>exact ⟨rfl,rfl⟩
      ·exact ⟨rfl,CM _ G,rfl,rfl,rfl,rfl,trivial⟩
    ·obtain ⟨i,g,hi,rfl⟩:=qu _ _ _ hq;simp only [Nat.zero_add] at EJ hq;have nV:=S3 hi;have Ad:(tm++[i]).getLast?=some i:=by simp
     have qb:g∈G:=List.mem_of_getElem? hi;have wV:=Mj g.lo g.cs (by have:=hM.ok.rg g qb;omega) (by
      have h1:=hM.mx hS qb;have h2:2^(3*s.length)<=2^42:=Nat.pow_le_pow_right (by omega) (by omega);omega)
     have fi:=(List.getElem?_eq_some_iff.1 hi).1;have EL:(tm++[i]).Nodup:=by
      rw [List.nodup_append];refine ⟨EM,by simp,fun x hx y hy e=>?_⟩;simp only [List.mem_cons,List.not_mem_nil,or_false] at hy;exact EJ (hy▸e▸hx)
     have EH: ∀j∈tm++[i],j<G.length:=fun j hj=>by
      rcases List.mem_append.1 hj with hj|hj
      ·exact EI j hj
      ·simp only [List.mem_cons,List.not_mem_nil,or_false] at hj;subst hj;exact fi
     have Pt:=te EL (k:=List.range G.length) fun i hi=>List.mem_range.2 (EH i hi);simp only [List.length_append,List.length_cons,List.length_nil,List.length_range] at Pt
     repeat' (first|omega|(first|apply ag|(refine an.intro (id:=21) [[67,68],[66,6],[66,6],[67,68],[]] [[],[0],[0],[1,2],[]] (by decide+kernel) mixed ?_)|(refine an.aB (id:=21) (gI) (by decide+kernel) mixed ?_)|skip);simp only [go_sem,sevalprocAttr,dd,nV,Ad,Nat.zero_add,↓reduceIte,reduceCtorEq,gI]|apply ah<;>(intro h_;(try simp only [h_]);revert h_)|apply ai|apply aj|apply ae|apply And.intro|with_reducible intro h_|trivial|simp only [go_sem,ak];omega)
     refine ⟨aA.fn rfl wV ?_⟩
     repeat' (first|omega|(first|apply ag|(refine an.intro (id:=21) [[67,68],[66,6],[66,6],[67,68],[]] [[],[0],[0],[1,2],[]] (by decide+kernel) mixed ?_)|(refine an.aB (id:=21) (gI) (by decide+kernel) mixed ?_)|skip);simp only [go_sem,sevalprocAttr,dd,↓reduceIte,reduceCtorEq,gI]|apply ah<;>(intro h_;(try simp only [h_]);revert h_)|apply ai|apply aj|apply ae|apply And.intro|with_reducible intro h_|trivial|simp only [go_sem,ak];omega)
     refine ⟨_,_,_,?_,Wk.sub ?_ ?_,tm++[i],EL,EH,rfl,rfl,rfl⟩
     ·simp only [List.length_append,List.length_cons,List.length_nil];omega
     ·simp only [go_sem,sevalprocAttr,dd]
     ·exact ⟨rfl,rfl,rfl,rfl,rfl,CM _ G,rfl,rfl,rfl,rfl,trivial⟩
   ·obtain ⟨i,g,hi,rfl⟩:=qu _ _ _ hq;simp only [Nat.zero_add] at EJ hq;have nV:=S3 hi;have Ad:(sn++[i]).getLast?=some i:=by simp
    have qb:g∈sd:=List.mem_of_getElem? hi;have qJ:=hM.step hp hn hl hr wG wI hS hi EJ;have jN:=qJ.bt;simp only [List.length_append,List.length_cons,List.length_nil] at jN;have h42:2^(3*s.length)<=2^42:=Nat.pow_le_pow_right (by omega) (by omega);have h214:2^k<=2^14:=Nat.pow_le_pow_right (by omega) (by omega);have j9:max 1000001 (hnew (eX 0 G))=1000001:=by
     have:=s9 G 0
     have:=hM.len
     have:=hS.len
     omega
    repeat' (first|omega|(first|apply ag|(refine an.intro (id:=21) [[67,68],[66,6],[66,6],[67,68],[]] [[],[0],[0],[1,2],[]] (by decide+kernel) mixed ?_)|(refine an.aB (id:=21) (gI) (by decide+kernel) mixed ?_)|skip);simp only [go_sem,sevalprocAttr,dd,nV,Ad,j9,Nat.zero_add,↓reduceIte,reduceCtorEq,gI]|apply ah<;>(intro h_;(try simp only [h_]);revert h_)|apply ai|apply aj|apply ae|apply And.intro|with_reducible intro h_|trivial|simp only [go_sem,ak];omega)
    refine ⟨aA.inline (Yl (fr1:=[(45, .ptr 1000004 0),(13, .fn 144 [.ptr 1000003 0]),(12, .ptr 1000003 0),(11,I (spN (o.drop (k+1)))),(10, .rp (OL m (fS m o k) (o.getD k 0)) 0),(28,I k),(27,I s.length),(26,roI om),(4, .ptr 1 0),(2, .rp (.lst [roI s,roI m,I L]) 0),(1,roI om)]) hp s1.he hd.2 hd.1 (by omega) (by omega) sd (sn++[i]) G g (spN (o.drop (k+1))) (by cases o.drop (k+1)<;>simp [spN]) (hS.ok.ok g qb) (hS.ok.pr g qb) (hS.ok.rg g qb) (hS.ok.ne g qb) (by omega) hM.ok (by have:=hM.len;have:=hS.len;omega) (fun x hx=>by have:=hM.mx hS hx;omega) (fun b=>?_) ?_ (KI (by simp) ?_ ?_ ?_) ?_)⟩
    ·have h1:=KM (F:=ld m (o.drop k) (fS m o k)) qb;have h2:=hS.nu;rw [xE (show k<o.length by omega)] at h1 h2
     have:=Ea (Nat.le_trans h1 h2) b
     omega
    ·rfl
    ·rfl
    ·refine FC ?_ rfl;simp only [go_sem,sevalprocAttr,List.forall_mem_cons,dd]
    ·intro i' o' iy;rw [hget,if_neg fun e=>by subst e;rw [Dk (by have:=hM.len;have:=hS.len;omega) (by omega)] at iy;cases iy];exact iy
    ·repeat' (first|omega|(first|apply ag|(refine an.intro (id:=21) [[67,68],[66,6],[66,6],[67,68],[]] [[],[0],[0],[1,2],[]] (by decide+kernel) mixed ?_)|(refine an.aB (id:=21) (gI) (by decide+kernel) mixed ?_)|skip);simp only [go_sem,sevalprocAttr,dd,↓reduceIte,reduceCtorEq,gI]|apply ah<;>(intro h_;(try simp only [h_]);revert h_)|apply ai|apply aj|apply ae|apply And.intro|with_reducible intro h_|trivial|simp only [go_sem,ak];omega)
     refine ⟨_,_,_,?_,NY ?_ (fun t ht=>?_) (fun _ _ h=>h),sn++[i],_,qJ,rfl,rfl,rfl⟩
     ·simp only [List.length_append,List.length_cons,List.length_nil];omega
     ·simp only [go_sem,sevalprocAttr,List.forall_mem_cons,dd,dF,Option.isSome_some]
     ·simp only [fget]
      repeat rw [if_neg (by omega)])
 ·obtain rfl:k=s.length:=by omega
  obtain ⟨s1,s2⟩:=BB hp hn hl hr s.length (by omega);have vq:o.drop s.length=[]:=List.drop_eq_nil_of_le (by omega);have vz:fS m o s.length=[]:=GA hp s1.he fun c hc=>by
   rcases s1.al c hc with g|g
   ·exact g
   ·rw [vq] at g;simp at g
  obtain ⟨g,rfl,E5,hgp⟩:=Mg hS vz vq;have qb:g∈[g]:=List.mem_cons_self ..;have vn:=hS.ok.rg g qb;have hmx:mxN g.cs<=4398046511104:=by
   have h1:=xY hS.nu qb;have h2:2^(3*s.length)<=2^42:=Nat.pow_le_pow_right (by omega) (by omega);omega
  have nV:lY (fk 0 [g]) ⟨#[]⟩=some (g.key,0,tpA g.lo g.cs):=by
   have:=Y3 hS.ok.nd (i:=0) (g:=g) rfl
   rw [E5] at this⊢;exact this
  have XR:Fn Tryz.prog 45 [I g.lo, .ro 1 (2*g.cs.length) (.ints (fc g.cs g.cs.length))] (plA false (tmI g.lo (fc g.cs g.cs.length))):=by
   rw [←BR g.cs g.cs.length];exact OS g.lo (fc g.cs g.cs.length) (by rw [BR];omega) (by rw [BR];omega) (fun c hc=>by
    obtain ⟨i,hi,rfl⟩:=List.mem_iff_getElem.1 hc;have h1:=xg g.cs (i/2);simp only [fc,List.getElem_map,List.getElem_range]
    split<;>omega)
  have oE:tmI g.lo (fc g.cs g.cs.length)=dN (aU m s.length 0 1):=bZ.eq ⟨GO _ _,fun e=>by rw [Mh,hgp]⟩ fun e he=>Mf hp (by omega) he;have bk:decide ((s.length:Int)<s.length)=false:=by simp
  have e2n:(2*(g.cs.length:Int)).toNat=2*g.cs.length:=by omega
  repeat' (first|omega|(first|apply ag|(refine an.intro (id:=21) [[67,68],[66,6],[66,6],[67,68],[]] [[],[0],[0],[1,2],[]] (by decide+kernel) mixed ?_)|(refine an.aB (id:=21) (gI) (by decide+kernel) mixed ?_)|skip);simp only [go_sem,sevalprocAttr,bk,nV,dd,e2n,↓reduceIte,reduceCtorEq,gI]|apply ah<;>(intro h_;(try simp only [h_]);revert h_)|apply ai|apply aj|apply ae|apply And.intro|with_reducible intro h_|trivial|simp only [go_sem,ak];omega)
  refine bV.intro (fun n' fr H=> ∃j:Nat,j<=g.cs.length/\n'=g.cs.length-j/\fr=[(80,I j),(79,I g.cs.length),(78,roI g.cs),(19, .sl 1 1000002 0 (2*g.cs.length)),(18, .ptr 1000001 0),(4, .ptr 1 0)]/\
   H=[(1000002, .cells 3 (.ints (fc g.cs j))),(1000001, .cells 151 (.lst [I g.lo,roI g.cs])),(1, .cells 29 (.lst [.bool false, .nils]))]) ?_ ?_
  ·refine ⟨_,_,_,Wk.sub ?_ ?_,0,by omega,rfl,rfl,rfl⟩
   ·simp only [go_sem,sevalprocAttr]
   ·simp only [go_sem,sevalprocAttr,Mi]
  rintro n' fr H ⟨j,hj,rfl,rfl,rfl⟩;have cL:=BR g.cs j;by_cases cO:j<g.cs.length
  ·have bj:decide ((j:Int)<g.cs.length)=true:=by simp;omega
   have e1:(2*(j:Int)).toNat=2*j:=by omega
   have bH:=y5t g.cs j cO
   repeat' (first|omega|(first|apply ag|(refine an.intro (id:=21) [[67,68],[66,6],[66,6],[67,68],[]] [[],[0],[0],[1,2],[]] (by decide+kernel) mixed ?_)|(refine an.aB (id:=21) (gI) (by decide+kernel) mixed ?_)|skip);simp only [go_sem,sevalprocAttr,bj,e1,cL,bH,↓reduceIte,reduceCtorEq,gI]|apply ah<;>(intro h_;(try simp only [h_]);revert h_)|apply ai|apply aj|apply ae|apply And.intro|with_reducible intro h_|trivial|simp only [go_sem,ak];omega)
   refine ⟨_,_,_,?_,Wk.sub ?_ ?_,j+1,by omega,rfl,rfl,rfl⟩
   ·omega
   ·simp only [go_sem,sevalprocAttr]
   ·simp only [go_sem,sevalprocAttr,bH]
  ·obtain rfl:j=g.cs.length:=by omega
   have bj:decide ((g.cs.length:Int)<g.cs.length)=false:=by simp
   have dH:(fc g.cs g.cs.length).take (2*g.cs.length)=fc g.cs g.cs.length:=List.take_of_length_le (by omega);rw [oE] at XR
   repeat' (first|omega|(first|apply ag|(refine an.intro (id:=21) [[67,68],[66,6],[66,6],[67,68],[]] [[],[0],[0],[1,2],[]] (by decide+kernel) mixed ?_)|(refine an.aB (id:=21) (gI) (by decide+kernel) mixed ?_)|skip);simp only [go_sem,sevalprocAttr,bj,cL,↓reduceIte,reduceCtorEq,gI]|apply ah<;>(intro h_;(try simp only [h_]);revert h_)|apply ai|apply aj|apply ae|apply And.intro|with_reducible intro h_|trivial|simp only [go_sem,ak];omega)
   refine ⟨aA.ln [1000002] rfl (by simp only [go_sem,sevalprocAttr,cL,dH,Nat.le_refl]) (by simp only [go_sem,sevalprocAttr,cL,dH,Nat.le_refl]) (by simp only [go_sem,sevalprocAttr,cL,dH,Nat.le_refl]) (by simp only [go_sem,sevalprocAttr,cL,dH,Nat.le_refl]) rfl rfl rfl (aA.fn rfl XR ?_)⟩
   repeat' (first|omega|(first|apply ag|(refine an.intro (id:=21) [[67,68],[66,6],[66,6],[67,68],[]] [[],[0],[0],[1,2],[]] (by decide+kernel) mixed ?_)|(refine an.aB (id:=21) (gI) (by decide+kernel) mixed ?_)|skip);simp only [go_sem,sevalprocAttr,bj,cL,↓reduceIte,reduceCtorEq,gI]|apply ah<;>(intro h_;(try simp only [h_]);revert h_)|apply ai|apply aj|apply ae|apply And.intro|with_reducible intro h_|trivial|simp only [go_sem,ak];omega)
   all_goals exact aR.refl _
end Go.Proofs.YtphjphpmfflfpaaGreatDoor
