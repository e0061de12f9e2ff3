/- Layer 12: sums and products of polynomials that are known by their coefficients. -/
import Derived.Test.YtphjphpmfflfpaaGreatDoorZn
import Derived.Test.YtphjphpmfflfpaaGreatDoorZj
import Derived.Test.YtphjphpmfflfpaaGreatDoorZc
import Derived.Test.YtphjphpmfflfpaaGreatDoorSx1
set_option linter.unusedSimpArgs false
set_option linter.unusedVariables false
namespace Go.Proofs.YtphjphpmfflfpaaGreatDoor
open Go Go.RowKit
set_option maxRecDepth 100000
structure bH (p:List (Int×Int)) (f:Int->Int):Prop where
 asc:bG p
 cf: ∀e,cfL p e=f e
theorem bH.nil:bH [] (fun _=>0):=⟨bG.nil,fun _=>rfl⟩
theorem bH.congr {p:List (Int×Int)} {f g:Int->Int} (h:bH p f) (e: ∀x,f x=g x):bH p g:=⟨h.asc,fun x=>(h.cf x).trans (e x)⟩
theorem bH.mem {p:List (Int×Int)} {f:Int->Int} (h:bH p f) {t:Int×Int} (ht:t∈p):t.2=f t.1/\f t.1≠0:=by
 have:=wD h.asc ht
 rw [h.cf] at this;exact ⟨this.symm,by rw [this];exact h.asc.nz t ht⟩
theorem bH.len {p:List (Int×Int)} {f:Int->Int} (h:bH p f) (hs: ∀e,f e≠0-> -1000<=e/\e<=1000):p.length<=2001:=by
 have:=h.asc.len (a:= -1000) (b:=1000) fun t ht=>hs _ (h.mem ht).2
 omega
theorem bH.fits {p:List (Int×Int)} {f:Int->Int} (h:bH p f) (hb: ∀e,-1125899906842624<=f e/\f e<=1125899906842624):qi p:=fun t ht=>by
 rw [(h.mem ht).1];exact hb _
theorem bH.ok {p:List (Int×Int)} {f:Int->Int} (h:bH p f) (hs: ∀e,f e≠0-> -1000<=e/\e<=1000) (hb: ∀e,-1125899906842624<=f e/\f e<=1125899906842624):Gh p:=by
 refine ⟨h.fits hb,by have:=h.len hs;omega,fun i j fC hj=>?_,fun i hi=>?_⟩
 ·by_cases e:i=j
  ·subst e;exact Int.le_refl _
  ·have:=List.pairwise_iff_getElem.1 h.asc.asc i j (by omega) hj (by omega)
   simp only [List.getD_eq_getElem?_getD,List.getElem?_eq_getElem hj,List.getElem?_eq_getElem (show i<p.length by omega),Option.getD_some];omega
 ·have:=hs _ (h.mem (lY hi)).2
  omega
theorem Hn {p:List (Int×Int)} (h:p.Pairwise fun a b=>a.1<b.1) {t:Int×Int} (ht:t∈p):cfL p t.1=t.2:=by
 induction p with
 |nil=>cases ht
 |cons u p ih=>
  have h1:=List.pairwise_cons.1 h;simp only [cfL];rcases List.mem_cons.1 ht with rfl|ht
  ·rw [if_pos rfl,pA fun v hv=>by have:=h1.1 v hv;omega];omega
  ·rw [if_neg (by have:=h1.1 t ht;omega),ih h1.2 ht];omega
theorem JB (c e:Int):bH (yV c e) (fun x=>if x=e then c else 0):=by
 unfold yV
 split
 ·rename_i h
  exact bH.nil.congr fun x=>by rw [h];split<;>rfl
 ·rename_i h
  refine ⟨⟨by simp,fun t ht=>by simp only [List.mem_singleton] at ht;subst ht;exact h⟩,fun x=>?_⟩;simp only [cfL,Int.add_zero];by_cases hx:x=e
  ·rw [if_pos hx.symm,if_pos hx]
  ·rw [if_neg (fun h=>hx h.symm),if_neg hx]
theorem Mc:bG [(-2,-1),(2,-1)]:=⟨by decide,by decide⟩
theorem Em {p q:List (Int×Int)} {f g h:Int->Int} (hp:bH p f) (hq:bH q g) (hs: ∀e,f e≠0-> -1000<=e/\e<=1000) (gh: ∀e,g e≠0-> -1000<=e/\e<=1000)
  (hb: ∀e,-1125899906842624<=f e/\f e<=1125899906842624) (lO: ∀e,-1125899906842624<=g e/\g e<=1125899906842624) (hh: ∀e,cvL p g e=h e) (CO: ∀e,-1125899906842624<=h e/\h e<=1125899906842624)
  (jq:0<p.length) (oW:0<q.length) (hd:fm p+fm q-(aI p+aI q)<=64+4*(p.length:Int)*q.length):
  ∃r,bH r h/\Fn Tryz.prog 16 [plA false p,plA false q] (plA false r):=by
 have a0:=hs _ (hp.mem (lY (i:=0) jq)).2;have a1:=hs _ (hp.mem (lY (i:=p.length-1) (by omega))).2;have b0:=gh _ (hq.mem (lY (i:=0) oW)).2;have b1:=gh _ (hq.mem (lY (i:=q.length-1) (by omega))).2;have Ym:cfL q=g:=funext hq.cf;have hc: ∀e,cfL (tmI (aI p+aI q) (lC p q)) e=h e:=fun e=>by rw [Vd hp.asc hq.asc,Ym,hh]
 refine ⟨_,⟨D5 _ _,hc⟩,Jp p q (hp.ok hs hb) (hq.ok gh lO) jq oW ?_ ?_ ?_ hd fun z hz=>?_⟩
 ·unfold aI;omega
 ·unfold fm;omega
 ·unfold aI fm;omega
 ·obtain ⟨i,hi,rfl⟩:=List.mem_iff_getElem.1 hz;have h1:=Aj (aI p+aI q) (lC p q) (aI p+aI q+i);rw [if_pos (by omega),show (aI p+aI q+(i:Int)-(aI p+aI q)).toNat=i by omega,hc] at h1;have h2:(lC p q).getD i 0=(lC p q)[i]:=by simp [List.getD_eq_getElem?_getD,hi]
  rw [←h2,←h1];exact CO _
theorem JA {p:List (Int×Int)} {f:Int->Int} (hp:bH p f) (hs: ∀e,f e≠0-> -1000<=e/\e<=1000) (hb: ∀e,-281474976710656<=f e/\f e<=281474976710656) (hd:0<p.length->fm p-aI p+4<=64+8*(p.length:Int)):
  ∃q,bH q (c9 f)/\Fn Tryz.prog 16 [plA false p,plA false [(-2,-1),(2,-1)]] (plA false q):=by
 by_cases jq:0<p.length
 ·have hq:bH [(-2,-1),(2,-1)] (cfL [(-2,-1),(2,-1)]):=⟨Mc,fun _=>rfl⟩;refine Em hp hq hs (fun e he=>?_) (fun e=>by have:=hb e;omega) (fun e=>?_) (h:=c9 f) (fun e=>by rw [C9,show cfL p=f from funext hp.cf]) (fun e=>?_) jq (by decide) ?_
  ·simp only [cfL] at he;by_cases h1:(-2:Int)=e
   ·omega
   ·rw [if_neg h1] at he;by_cases h2:(2:Int)=e
    ·omega
    ·rw [if_neg h2] at he;exact absurd rfl he
  ·simp only [cfL];split<;>split<;>omega
  ·have h1:=hb (e+2);have h2:=hb (e-2);unfold c9;omega
  ·have:=hd jq
   have e1:fm [((-2:Int),(-1:Int)),(2,-1)]=2:=rfl;have e2:aI [((-2:Int),(-1:Int)),(2,-1)]= -2:=rfl;rw [e1,e2,show ([((-2:Int),(-1:Int)),(2,-1)]:List (Int×Int)).length=2 from rfl];omega
 ·obtain rfl:p=[]:=List.length_eq_zero_iff.1 (by omega);refine ⟨[],bH.nil.congr fun e=>?_,MW _⟩;have h1:=hp.cf (e+2);have h2:=hp.cf (e-2);simp only [cfL] at h1 h2;unfold c9;rw [←h1,←h2];rfl
def dJ (f:Int->Int):List (Int×Int):=tmI (-1000) ((List.range 2001).map fun (i:Nat)=>f ((i:Int)-1000))
theorem sX {f:Int->Int} (hs: ∀e,f e≠0-> -1000<=e/\e<=1000):bH (dJ f) f:=by
 refine ⟨D5 _ _,fun e=>?_⟩;unfold dJ;rw [Aj];by_cases h0:f e=0
 ·rw [h0]
  split
  ·by_cases h1:(e- -1000).toNat<2001
   ·simp only [List.getD_eq_getElem?_getD,List.getElem?_map,List.getElem?_range h1,Option.map_some,Option.getD_some];rw [show (((e- -1000).toNat:Nat):Int)-1000=e by omega,h0]
   ·rw [List.getD_eq_getElem?_getD,List.getElem?_eq_none (by simp;omega)];rfl
  ·rfl
 ·have:=hs e h0
  rw [if_pos (by omega)];have h1:(e- -1000).toNat<2001:=by omega
  simp only [List.getD_eq_getElem?_getD,List.getElem?_map,List.getElem?_range h1,Option.map_some,Option.getD_some];rw [show (((e- -1000).toNat:Nat):Int)-1000=e by omega]
theorem bH.eq {p:List (Int×Int)} {f:Int->Int} (h:bH p f) (hs: ∀e,f e≠0-> -1000<=e/\e<=1000):p=dJ f:=
 bG.ext h.asc (sX hs).asc fun e=>by rw [h.cf,(sX hs).cf]
def ld (m:List Int) (n L:Nat):List (Int×Int):=dJ (bA m n L 1)
theorem tH {m:List Int} {n L:Nat} (hp:bd m n) (hn:n<=9) (hL:L<=20) {j:Nat} (hj:1<=j) {e:Int} (he:bA m n L j e≠0): -1000<=e/\e<=1000:=by
 have h1:=wI hp he;have h2:=s5 hp (fun _=>true);have h3:=s5 hp (fun _=>false);omega
theorem El {m:List Int} {n L:Nat} (hp:bd m n) (hn:n<=9) (hL:L<=20) {j:Nat} (hj:1<=j) (e:Int): -70368744177664<=bA m n L j e/\bA m n L j e<=70368744177664:=by
 have h1:=Uy hp (L:=L) (j:=j) (M:=37) (by omega) e;have h2:2^(37+n)<=2^46:=Nat.pow_le_pow_right (by omega) (by omega);omega
inductive kD:Fr->Fr->Prop
 |nil:kD [] []
 |cons {i:Nat} {x y:AV} {fr fr':Fr}:aM x y->kD fr fr'->kD ((i,x)::fr) ((i,y)::fr')
theorem kD.refl: ∀fr:Fr,kD fr fr
 |[]=> .nil
 |(_,x)::fr=> .cons (aM.refl x) (kD.refl fr)
theorem kD.get {fr fr':Fr} (h:kD fr fr') (t:Nat):aM (fget fr t) (fget fr' t):=by
 induction h with
 |nil=>exact aM.refl _
 |cons h1 _ ih=>
  simp only [fget]
  split
  ·exact h1
  ·exact ih
theorem Wk.le {fr fr':Fr} {H:Hp} (h:kD fr fr'):Wk fr H fr' H:=fun _ _ _ _ _ ρ _ hs=>⟨ρ,hs.rm fun t=>(h.get t).out _ _ _ _ _ (hs.frv t)⟩
theorem O1 (H:Hp) (i j:Nat):hget (H++[(i, .gone)]) j=match hget H j with|some o=>some o|none=>if i=j then some .gone else none:=by
 induction H with
 |nil=>simp [hget]
 |cons p H ih=>
  obtain ⟨k,o⟩:=p;rw [List.cons_append];simp only [hget];by_cases e:k=j
  ·rw [if_pos e,if_pos e]
  ·rw [if_neg e,if_neg e];exact ih
theorem Wk.gone {fr:Fr} {H:Hp} (i:Nat) (h:hget H i=none):Wk fr H fr (H++[(i, .gone)]):=by
 intro B w0 Mx N w ρ a hs;have up: ∀j o,hget H j=some o->hget (H++[(i, .gone)]) j=some o:=fun j o hj=>by rw [O1,hj]
 have dn: ∀j o,hget (H++[(i, .gone)]) j=some o->o= .gone\/hget H j=some o:=fun j o hj=>by
  rw [O1] at hj;cases hq:hget H j with
  |some o'=>rw [hq] at hj;exact .inr hj
  |none=>
   rw [hq] at hj;simp only at hj
   split at hj
   ·cases hj;exact .inl rfl
   ·cases hj
 have dl: ∀j o,hget (H++[(i, .gone)]) j=some o->o.live=true->hget H j=some o:=fun j o hj hl=>by
  rcases dn j o hj with rfl|h2
  ·cases hl
  ·exact h2
 have hM: ∀b,¬MM Mx H ρ b-> ¬MM Mx (H++[(i, .gone)]) ρ b:=fun b hn hm=>hn (by
  rcases hm with h1|⟨id,o,h1,h2,h3⟩
  ·exact .inl h1
  ·exact .inr ⟨id,o,dl id o h1 h2,h2,h3⟩)
 have hc: ∀{v:Value} {x:AV},VR w (MM Mx H ρ) ρ (DD H) v x->VR w (MM Mx (H++[(i, .gone)]) ρ) ρ (DD (H++[(i, .gone)])) v x:=fun hv=>
  hv.carry (Nat.le_refl _) (fun b _ hm=>⟨rfl,hM b hm⟩) (fun id hd=>⟨let ⟨o,ho⟩:=hd;⟨o,up id o ho⟩,rfl,fun arr t ha=>⟨arr,ha,rfl⟩⟩)
 refine ⟨ρ,hs.below,hs.hB,hs.mx,fun id o h1 h2=>hs.own id o (dl id o h1 h2) h2,fun id o h1=>?_,fun id o bt o' h1 h2 h3 h4 h5=>hs.inj id o bt o' (dl _ _ h1 h2) h2 (dl _ _ h3 h4) h4 h5,fun t=>hc (hs.frv t),hs.defers,hs.size⟩;rcases dn id o h1 with rfl|h2
 ·trivial
 have hr:=hs.objs id o h2;cases o with
 |gone=>trivial
 |cells t c=>
  obtain ⟨g1,arr,g2,g3,g4⟩:=hr;exact ⟨g1,arr,g2,g3,fun j hj=>let ⟨u,hu,hv⟩:=g4 j hj;⟨u,hu,hc hv⟩⟩
 |gmap t ck l=>
  obtain ⟨es,g1,g2,g3⟩:=hr;exact ⟨es,g1,g2,fun j e' q he hl=>let ⟨k1,k2,k3⟩:=g3 j e' q he hl;⟨k1,k2,hc k3⟩⟩
 |iter mid s sn la=>
  obtain ⟨g1,g2,g3⟩:=hr;obtain ⟨om,pQ⟩:=g1;exact ⟨⟨om,up mid om pQ⟩,g2,g3⟩
 |imap t l=>
  obtain ⟨g0,es,ck,g1,g2,g3⟩:=hr;exact ⟨g0,es,ck,g1,g2,fun j e' k x he hl=>let ⟨k1,k2,k3⟩:=g3 j e' k x he hl;⟨k1,hc k2,k3⟩⟩
 |fmap t c=>exact hr
set_option maxHeartbeats 8000000
theorem Jz (lo:Int) (cs:List Int) (hl:cs.length<=1000000) (hm:mxN cs<=1125899906842624):Fn Tryz.prog 147 [tpA lo cs] (.bool false):=by
 refine Fn.au [.tmp 2] Tryz.func147 rfl rfl (by decide) (by simp [Tryz.ntmps147]) ?_;rw [Tryz.ntmps147]
 repeat' (first|omega|(try apply aj);simp only [go_sem,sevalprocAttr]|apply ag<;>(intro h_;(try simp only [h_]);revert h_)|apply ah|apply ai|apply ae|apply And.intro|with_reducible intro h_|trivial|simp only [go_sem,ak];omega)
 refine bN.intro (fun n fr H=> ∃k:Nat,k<=cs.length/\n=cs.length-k/\fr=[(8,I k),(7,I cs.length),(6,roI cs)]/\H=[]) ?_ ?_
 ·refine ⟨_,_,_,?_,0,by omega,rfl,rfl,rfl⟩;refine Wk.sub ?_ ?_<;>simp only [go_sem,sevalprocAttr]
 rintro n fr H ⟨k,hk,rfl,rfl,rfl⟩;by_cases bJ:k<cs.length
 ·have bk:decide ((k:Int)<cs.length)=true:=by simp;omega
  have hc:=u5 cs k;have b1:decide (1125899906842624<cs.getD k 0)=false:=by rw [decide_eq_false_iff_not];omega
  have b2:decide (cs.getD k 0< -1125899906842624)=false:=by rw [decide_eq_false_iff_not];omega
  repeat' (first|omega|(try apply aj);simp only [go_sem,sevalprocAttr,bk,b1,b2]|apply ag<;>(intro h_;(try simp only [h_]);revert h_)|apply ah|apply ai|apply ae|apply And.intro|with_reducible intro h_|trivial|simp only [go_sem,ak];omega)
  refine ⟨_,_,_,?_,?_,k+1,by omega,rfl,rfl,rfl⟩
  ·omega
  ·refine Wk.sub ?_ ?_<;>simp only [go_sem,sevalprocAttr]
 ·obtain rfl:k=cs.length:=by omega
  have bk:decide ((cs.length:Int)<cs.length)=false:=by simp
  repeat' (first|omega|(try apply aj);simp only [go_sem,sevalprocAttr,bk]|apply ag<;>(intro h_;(try simp only [h_]);revert h_)|apply ah|apply ai|apply ae|apply And.intro|with_reducible intro h_|trivial|simp only [go_sem,ak];omega)
  all_goals exact aM.refl _
theorem O0 (H:Hp): ∀(G:List PE) (i:Nat),(∀k g,G[k]?=some g->hget H (i+k+10)=some (.cells 3 (.ints g.cs)))->hsel H ((List.range' i G.length).map (· +10))=dC i G
 |[],_,_=>rfl
 |g::G,i,h=>by
  have h0:=h 0 g rfl;rw [Nat.add_zero] at h0;simp only [List.length_cons,List.range'_succ,List.map_cons,hsel,h0,dC];rw [O0 H G (i+1) fun k g' hk=>by rw [show i+1+k+10=i+(k+1)+10 by omega];exact h (k+1) g' hk]
def plP (o:List Nat):Nat->List Nat
 |0=>[]
 |k+1=>o.getD k 0::plP o k
def e9 (m:List Int) (o:List Nat):Nat->List Int
 |0=>[]
 |k+1=>aG m (e9 m o k) (o.getD k 0)
theorem vg {o:List Nat} {k:Nat} (h:k<o.length):o.drop k=o.getD k 0::o.drop (k+1):=by
 rw [List.getD_eq_getElem?_getD,List.getElem?_eq_getElem h,Option.getD_some];exact List.drop_eq_getElem_cons h
theorem yz {m:List Int} {n:Nat} (hp:bd m n) {o:List Nat} (hn:o.Nodup) (hl:o.length=n) (hr: ∀c∈o,c<n): ∀k,k<=n->qd m n (plP o k) (e9 m o k) (o.drop k)/\(e9 m o k).length<=4*k
 |0,_=>⟨qd.init hn hl hr,by simp [e9]⟩
 |k+1,hk=>by
  obtain ⟨h1,h2⟩:=yz hp hn hl hr k (by omega);rw [vg (by omega)] at h1;have h3:=h1.dj _ (List.mem_cons_self ..);have h4:=Ns hp h1.he h3.2 h3.1;refine ⟨h1.step hp,?_⟩;simp only [e9];omega
structure lW (m:List Int) (n:Nat) (o:List Nat) (k:Nat) (sd:List PE):Prop where
 ok:qf (e9 m o k).length (k:Int) (2+200*(k:Int)) sd
 len:sd.length<=2^k
 pos:1<=sd.length
 va: ∀e,sumG (oH m (o.drop k) (e9 m o k) e) sd=bA m n 0 1 e
 nu:dB (kd m (o.drop k) (e9 m o k)) sd<=2^(3*n)
theorem lW.init {m:List Int} {n:Nat} (hp:bd m n) {o:List Nat} (hn:o.Nodup) (hl:o.length=n) (hr: ∀c∈o,c<n) (jN:0<n):lW m n o 0 [⟨pS [],0,[1]⟩]:=by
 have hd:dK (pS [])=[]:=zP (by simp);refine ⟨⟨by simp [kE],fun g hg=>?_,fun g hg=>?_,fun g hg=>?_,fun g hg=>?_⟩,by simp,by simp,fun e=>?_,?_⟩
 ·simp only [List.mem_cons,List.not_mem_nil,or_false] at hg;subst hg;dsimp only;rw [hd];exact ⟨rfl,rfl,fun x hx=>by simp [e9] at hx,fun x hx=>by simp [e9] at hx,fun x hx=>by simp [e9] at hx⟩
 ·simp only [List.mem_cons,List.not_mem_nil,or_false] at hg;subst hg;simp
 ·simp only [List.mem_cons,List.not_mem_nil,or_false] at hg;subst hg;simp
 ·simp only [List.mem_cons,List.not_mem_nil,or_false] at hg;subst hg;simp
 ·rw [←Us hp hn hl hr jN e];simp only [sumG,oH,hd,List.drop_zero,e9,Int.add_zero];refine sY m o [] [] (fun x=>?_) e;unfold iv;by_cases h0:x=0
  ·subst h0;rfl
  ·rw [if_neg h0]
   split
   ·rename_i h
    have:(x-0)/2≠0:=by omega
    obtain ⟨j,hj⟩: ∃j,((x-0)/2).toNat=j+1:=⟨((x-0)/2).toNat-1,by omega⟩;rw [hj];rfl
   ·rfl
 ·simp only [dB,kd,hd,List.drop_zero,e9,mxN]
  have:=VA hp hn hl hr
  simpa using this
structure iF (m:List Int) (n:Nat) (o:List Nat) (k:Nat) (sd:List PE) (sn:List Nat) (G:List PE):Prop where
 nd:sn.Nodup
 rg: ∀i∈sn,i<sd.length
 ok:qf (e9 m o (k+1)).length ((k:Int)+1) (2+200*(k:Int)+200) G
 len:G.length<=2*sn.length
 pos:sn≠[]->1<=G.length
 va: ∀e,sumG (oH m (o.drop (k+1)) (e9 m o (k+1)) e) G=(sn.map fun i=>oH m (o.drop k) (e9 m o k) e (sd.getD i ⟨ByteArray.empty,0,[]⟩)).sum
 nu:dB (kd m (o.drop (k+1)) (e9 m o (k+1))) G<=(sn.map fun i=>kd m (o.drop k) (e9 m o k) (sd.getD i ⟨ByteArray.empty,0,[]⟩)).sum
theorem iF.init (m:List Int) (n:Nat) (o:List Nat) (k:Nat) (sd:List PE):iF m n o k sd [] []:=
 ⟨by simp,by simp,qf.nil _ _ _,by simp,by simp,fun e=>rfl,by simp [dB]⟩
theorem Uj (l:List Int) (x:Int):(l++[x]).sum=l.sum+x:=by rw [List.sum_append_int];simp
theorem NY (F:PE->Int) (d:PE): ∀(sd:List PE),((List.range sd.length).map fun i=>F (sd.getD i d)).sum=sumG F sd
 |[]=>rfl
 |g::sd=>by
  rw [List.length_cons,List.range_succ_eq_map,List.map_cons,List.map_map,List.sum_cons]
  have:=NY F d sd
  simp only [sumG,←this];rfl
theorem Hm (F:PE->Nat) (d:PE): ∀(sd:List PE),((List.range sd.length).map fun i=>F (sd.getD i d)).sum=dB F sd
 |[]=>rfl
 |g::sd=>by
  rw [List.length_cons,List.range_succ_eq_map,List.map_cons,List.map_map,List.sum_cons]
  have:=Hm F d sd
  simp only [dB,←this];rfl
theorem OZ {l k:List Nat} (h:l.Perm k):l.sum=k.sum:=by
 induction h with
 |nil=>rfl
 |cons x _ ih=>simp only [List.sum_cons,ih]
 |swap x y l=>simp only [List.sum_cons];omega
 |trans _ _ h1 h2=>rw [h1,h2]
theorem Vy {sn:List Nat} {N:Nat} (hn:sn.Nodup) (hr: ∀i∈sn,i<N) (ha: ∀i,i<N->i∈sn):sn.Perm (List.range N):=
 (List.perm_ext_iff_of_nodup hn List.nodup_range).2 fun a=>⟨fun h=>List.mem_range.2 (hr a h),fun h=>ha a (List.mem_range.1 h)⟩
section
variable {m:List Int} {n:Nat} (hp:bd m n) {o:List Nat} (hn:o.Nodup) (hl:o.length=n) (hr: ∀c∈o,c<n) (ur:n<=14)
include hp hn hl hr ur
theorem iF.step {k:Nat} (hk:k<n) {sd:List PE} (hS:lW m n o k sd) {sn:List Nat} {G:List PE} (h:iF m n o k sd sn G) {i:Nat} {g:PE} (hi:sd[i]?=some g) (vM:i∉sn):iF m n o k sd (sn++[i]) (qN m (o.getD k 0) (spN (o.drop (k+1))) (e9 m o k) G g):=by
 obtain ⟨s1,s2⟩:=yz hp hn hl hr k (by omega);have s3:=(yz hp hn hl hr (k+1) (by omega)).2;rw [vg (by omega)] at s1;have hd:=s1.dj _ (List.mem_cons_self ..);have hg:g∈sd:=List.mem_of_getElem? hi;have hgo:=hS.ok.ok g hg;have e1:e9 m o (k+1)=aG m (e9 m o k) (o.getD k 0):=rfl;have xx:sd.getD i ⟨ByteArray.empty,0,[]⟩=g:=by rw [List.getD_eq_getElem?_getD,hi];rfl
 have hex:=Um m (o.getD k 0) (spN (o.drop (k+1))) (e9 m o k) G g;have ct:=h.ok;rw [e1] at ct s3;refine ⟨?_,fun j hj=>?_,?_,?_,fun _=>hex.2,fun e=>?_,?_⟩
 ·rw [List.nodup_append];refine ⟨h.nd,by simp,fun x hx y hy e=>?_⟩;simp only [List.mem_cons,List.not_mem_nil,or_false] at hy;exact vM (hy▸e▸hx)
 ·rcases List.mem_append.1 hj with hj|hj
  ·exact h.rg j hj
  ·simp only [List.mem_cons,List.not_mem_nil,or_false] at hj;subst hj;exact (List.getElem?_eq_some_iff.1 hi).1
 ·rw [e1];exact JF hp s1.he hd.2 hd.1 (by omega) (by omega) hgo.2 (hS.ok.pr g hg) (hS.ok.rg g hg) (hS.ok.ne g hg) _ ct
 ·have:=h.len
  simp only [List.length_append,List.length_cons,List.length_nil];omega
 ·rw [e1,JE hp s1.he hd.2 hd.1 (by omega) (by omega) hgo.2 (hS.ok.pr g hg) _ (hS.ok.rg g hg) (hS.ok.ne g hg) ct e];rw [List.map_append,List.map_cons,List.map_nil,Uj,xx,←h.va e,e1,vg (show k<o.length by omega)]
 ·have h1:=JD hp s1.he hd.2 hd.1 (by omega) (by omega) hgo.2 G (o.drop (k+1)) (spN (o.drop (k+1)));have h2:=h.nu;rw [e1] at h2⊢;rw [List.map_append,List.map_cons,List.map_nil,List.sum_append,xx,vg (show k<o.length by omega)];rw [vg (show k<o.length by omega)] at h2;simp only [List.sum_cons,List.sum_nil,Nat.add_zero];omega
omit hp hn hl hr ur in
theorem iF.all {k:Nat} {sd:List PE} (hS:lW m n o k sd) {sn:List Nat} {G:List PE} (h:iF m n o k sd sn G) (ha: ∀i,i<sd.length->i∈sn):lW m n o (k+1) G:=by
 have hp:=Vy h.nd h.rg ha;have dq:sn.length=sd.length:=by have:=hp.length_eq;simpa using this
 have hlen:=h.len;have hsd:=hS.len;have xg:=hS.pos;refine ⟨?_,by rw [Nat.pow_succ];omega,h.pos (fun e=>by rw [e] at dq;simp at dq;omega),fun e=>?_,?_⟩
 ·have e2:2+200*((k+1:Nat):Int)=2+200*(k:Int)+200:=by omega
  rw [e2,show ((k+1:Nat):Int)=(k:Int)+1 by omega];exact h.ok
 ·rw [h.va e,HX (hp.map _),NY (fun g=>oH m (o.drop k) (e9 m o k) e g)];exact hS.va e
 ·have h1:=h.nu;rw [OZ (hp.map _),Hm (fun g=>kd m (o.drop k) (e9 m o k) g)] at h1;exact Nat.le_trans h1 hS.nu
end
theorem Qe {m:List Int} {r:List Nat} {ends:List Int} {G:List PE} {B:Nat} (h:dB (kd m r ends) G<=B) {g:PE} (hg:g∈G):mxN g.cs<=B:=by
 have h1:=Hs (F:=kd m r ends) hg;have h2:=DQ m r ends (dK g.key);have h3:mxN g.cs*1<=kd m r ends g:=Nat.mul_le_mul_left _ h2;omega
theorem S4 (f:Nat->Nat) {sn:List Nat} {N:Nat} (hn:sn.Nodup) (hr: ∀i∈sn,i<N):(sn.map f).sum<=((List.range N).map f).sum:=by
 have hp:(sn++(List.range N).filter fun i=> !sn.contains i).Perm (List.range N):=by
  refine (List.perm_ext_iff_of_nodup ?_ List.nodup_range).2 fun a=>?_
  ·rw [List.nodup_append];refine ⟨hn,List.nodup_range.filter _,fun x hx y hy e=>?_⟩;subst e
   have:=(List.mem_filter.1 hy).2
   simp at this;exact this hx
  ·simp only [List.mem_append,List.mem_filter,List.mem_range];constructor
   ·rintro (h|h)
    ·exact hr a h
    ·exact h.1
   ·intro h;by_cases ha:a∈sn
    ·exact .inl ha
    ·exact .inr ⟨h,by simpa using ha⟩
 rw [←OZ (hp.map f),List.map_append,List.sum_append];omega
theorem iF.mx {m:List Int} {n:Nat} {o:List Nat} {k:Nat} {sd:List PE} (hS:lW m n o k sd) {sn:List Nat} {G:List PE} (h:iF m n o k sd sn G) {x:PE} (hx:x∈G):mxN x.cs<=2^(3*n):=by
 refine Qe (Nat.le_trans h.nu (Nat.le_trans (S4 _ h.nd h.rg) ?_)) hx;rw [Hm (fun g=>kd m (o.drop k) (e9 m o k) g)];exact hS.nu
theorem Bu {m:List Int} {r:List Nat} {c:Nat} {ends:List Int} {g:PE} {B:Nat} (h:kd m (c::r) ends g<=B) (b:Bool):2^b7 m ends c (dK g.key) b*mxN g.cs<=B:=by
 have key:2^b7 m ends c (dK g.key) b<=nmR m (c::r) ends (dK g.key):=by
  have h0:=DQ m r (aG m ends c) (cO m ends c (dK g.key) false);have h1:=DQ m r (aG m ends c) (cO m ends c (dK g.key) true);have k0:=Nat.mul_le_mul_left (2^b7 m ends c (dK g.key) false) h0;have k1:=Nat.mul_le_mul_left (2^b7 m ends c (dK g.key) true) h1;simp only [nmR];cases b<;>omega
 have:=Nat.mul_le_mul_left (mxN g.cs) key
 rw [Nat.mul_comm];exact Nat.le_trans this h
theorem iF.aS {m:List Int} {n:Nat} {o:List Nat} {k:Nat} {sd:List PE} {sn:List Nat} {G:List PE} (h:iF m n o k sd sn G):sn.length<=sd.length:=by
 have:=q8 h.nd (k:=List.range sd.length) fun i hi=>List.mem_range.2 (h.rg i hi)
 simpa using this
theorem Ui {sd:List PE} {sn:List Nat} {G:List PE} {F A:Fr} {H0:Hp} (hA: ∀q∈A,fget F q.1=q.2/\q.1<1000000/\s3 cL q.2=true) (hl: ∀t,1000000<=t->fget F t= .any) (hH: ∀i o,hget (aR sd sn G) i=some o->hget H0 i=some o):Wk F H0 A (aR sd sn G):=by
 have:=Hq (Dx (A:=A) (fr1:=[]) hA (fun t ht=>hl t ht) rfl) hH
 simpa [lft] using this
def Bt:Hp:=(1000005, .gone)::cL
theorem Vx {k:Nat} (h:(hget Bt k).isSome=true):k=1000005\/k=1\/k=2\/k=1000002\/k=1000003\/k=1000004:=by
 simp only [Bt,hget] at h
 split at h
 ·omega
 ·exact .inr (yE h)
theorem Uh {fr:Fr} {H:Hp} (h:fr.all (fun q=>s3 H q.2)=true) (t:Nat):fget fr t= .any\/s3 H (fget fr t)=true:=DP h t
theorem SN {F A:Fr} (hA: ∀q∈A,fget F q.1=q.2) (t:Nat):fget A t=fget F t\/fget A t= .any:=by
 induction A with
 |nil=>exact .inr rfl
 |cons q A ih=>
  obtain ⟨s,x⟩:=q;simp only [fget]
  split
  ·rename_i e;subst e;exact .inl (hA (s,x) (List.mem_cons_self ..)).symm
  ·exact ih fun q hq=>hA q (List.mem_cons_of_mem _ hq)
theorem UR {sd:List PE} {sn:List Nat} {G:List PE} (hG:G.length<=900000) {F A:Fr} (hF:F.all (fun q=>s3 Bt q.2)=true) (hA: ∀q∈A,fget F q.1=q.2) (hs:A.all (fun q=>s3 [(1000005, .iter 1000002 G.length [] G.length),(1000003, .cells 152 (.lst [.mp 1000002])),(1000002, .gmap 152 G.length (dV 0 G)),(1, .cells 29 (.lst [.bool false, .nils])),(1000000, .gone)] q.2)=true):
  Wk F ((1000005, .iter 1000002 G.length [] G.length)::aR sd sn G) A [(1000005, .iter 1000002 G.length [] G.length),(1000003, .cells 152 (.lst [.mp 1000002])),(1000002, .gmap 152 G.length (dV 0 G)),(1, .cells 29 (.lst [.bool false, .nils])),(1000000, .gone)]:=by
 have cH: ∀k,k<10\/1000000<=k->hget (dC 0 G) k=none:=fun k hk=>Od (by omega);have h5: ∀k,(hget Bt k).isSome=true->hget (dC 0 G) k=none:=fun k hk=>cH k (by have:=Vx hk;omega);have e:hsel ((1000005, .iter 1000002 G.length [] G.length)::aR sd sn G) ((List.range' 0 G.length).map (· +10))=dC 0 G:=by
  refine O0 _ G 0 fun k g hk=>?_
  have:=(List.getElem?_eq_some_iff.1 hk).1
  simp only [hget]
  repeat rw [if_neg (by omega)]
  rw [show 0+k+10=k+10 by omega];exact cK hk
 have f1:=Nj h5 hF;have B5: ∀(X:List PE) (i:Nat),(∀k g,X[k]?=some g->G[i+k]?=some g)->ydl (dC 0 G) (dC i X):=by
  intro X
  induction X with
  |nil=>exact fun _ _=>trivial
  |cons g X ih=>exact fun i hX=>⟨trivial,ih (i+1) fun k g hk=>by rw [show i+1+k=i+(k+1) by omega];exact hX (k+1) g hk⟩
 have h2:ydl (dC 0 G) ((1000005, .iter 1000002 G.length [] G.length)::aR sd sn G):=by
  refine ⟨trivial,trivial,?_,?_,?_,?_,trivial,B5 G 0 fun k g hk=>by rw [Nat.zero_add];exact hk⟩
  ·intro x hx;simp only [List.mem_cons,List.not_mem_nil,or_false] at hx;subst hx;trivial
  ·intro q hq;obtain ⟨k,g,hk,rfl⟩:=DZ _ _ _ hq;have h0:=cK hk;simp only [aT,List.forall_mem_cons,show 0+k+10=k+10 by omega,h0,cE];refine ⟨trivial,?_,by simp⟩;simp [Cs.len]
  ·intro q hq;obtain ⟨k,g,hk,rfl⟩:=oz _ _ _ hq;simp only [aT,List.forall_mem_cons];exact ⟨trivial,trivial,by simp⟩
  ·intro x hx;simp only [List.mem_cons,List.not_mem_nil,or_false] at hx;rcases hx with rfl|rfl<;>trivial
 refine (Wk.kB _ (by rw [e];exact f1.1) (by rw [e];exact h2) rfl rfl).trans ?_;rw [e,f1.2];have oc:=MU G G 0 fun k g hk=>by rw [Nat.zero_add];exact hk
 refine Wk.tU (fun t=>?_) fun i o' hi=>?_
 ·rcases Uh hs t with h|h
  ·exact .inl h
  ·rcases SN hA t with g|g
   ·exact .inr ⟨g,h⟩
   ·exact .inl g
 ·simp only [cr,frzO,cH 1000005 (by omega),cH 1000004 (by omega),cH 1000003 (by omega),cH 1000002 (by omega),cH 2 (by omega),cH 1 (by omega),cH 1000000 (by omega),oc];simp only [hget] at hi⊢
  split at hi
  ·rename_i e1;subst e1;cases hi;exact ⟨by simp,rfl⟩
  split at hi
  ·rename_i e1;subst e1;cases hi;exact ⟨by simp;rfl,rfl⟩
  split at hi
  ·rename_i e1;subst e1;cases hi
   refine ⟨by simp,List.all_eq_true.2 fun q hq=>?_⟩;obtain ⟨k,g,_,rfl⟩:=oz _ _ _ hq;rfl
  split at hi
  ·rename_i e1;subst e1;cases hi;exact ⟨by simp;exact ⟨rfl,rfl⟩,rfl⟩
  split at hi
  ·rename_i e1;subst e1;cases hi;exact ⟨by simp,rfl⟩
  ·cases hi
end Go.Proofs.YtphjphpmfflfpaaGreatDoor
