/- Layer 12: sum, negative, shift, Of. -/
import Derived.Test.YtngegnonblbdhaaDoorZi
import Derived.Test.YtngegnonblbdhaaDoorZg
import Derived.Test.YtngegnonblbdhaaDoorZe
import Derived.Test.YtngegnonblbdhaaDoorZh
import Derived.Test.YtngegnonblbdhaaDoorZb
set_option linter.unusedSimpArgs false
set_option linter.unusedVariables false
namespace Go.Proofs.YtngegnonblbdhaaDoor
open Go Go.RowKit
set_option maxRecDepth 100000
set_option maxHeartbeats 8000000
theorem y0d (a b:Int) (h1: -1125899906842624<=a) (h2:a<=1125899906842624) (h3: -1125899906842624<=b) (h4:b<=1125899906842624):Fn Tryd.prog 46 [I a,I b] (I (addF a b)):=by
 unfold addF
 refine Fn.intro [.tmp 4] Tryd.func46 rfl rfl (by decide) (by simp [Tryd.ntmps46]) ?_;rw [Tryd.ntmps46]
 repeat' (first|omega|(try apply yaa);simp only [go_sem,sevalprocAttr]|apply yab<;>(intro h_;(try simp only [h_]);revert h_)|apply And.intro|with_reducible intro h_|trivial|simp only [go_sem,la2];omega)
theorem y10 (p q:List (Int×Int)) (hp:ye4 p) (hq:ye4 q) (hpl:p.length<=500000) (hql:q.length<=500000) (hok:yc2 (mrg addF p q)=true):Fn Tryd.prog 26 [plA false p,plA false q] (plA false (nz (mrg addF p q))):=by
 have hc:=yrx p q 46 addF hp hq hpl hql (fun a b h1 h2 h3 h4=>y0d a b h1 h2 h3 h4)
 rw [if_pos hok] at hc
 refine Fn.intro [.cell 4 36] Tryd.func26 rfl rfl (by decide) (by simp [Tryd.ntmps26]) ?_;rw [Tryd.ntmps26]
 repeat' (first|omega|(try apply yaa);simp only [go_sem,sevalprocAttr]|apply yab<;>(intro h_;(try simp only [h_]);revert h_)|apply And.intro|with_reducible intro h_|trivial|simp only [go_sem,la2];omega)
 refine ⟨yad.fn rfl hc ?_⟩
 repeat' (first|omega|(try apply yaa);simp only [go_sem,sevalprocAttr]|apply yab<;>(intro h_;(try simp only [h_]);revert h_)|apply And.intro|with_reducible intro h_|trivial|simp only [go_sem,la2];omega)
end Go.Proofs.YtngegnonblbdhaaDoor
set_option linter.unusedSimpArgs false
set_option linter.unusedVariables false
namespace Go.Proofs.YtngegnonblbdhaaDoor
open Go Go.RowKit
set_option maxHeartbeats 8000000
set_option maxRecDepth 100000
theorem yx0 (x:Nat) (h:x<9223372036854775808):yhc (x:Int) 1=((x % 2:Nat):Int):=by
 unfold yhc
 have h1:(BitVec.ofInt 64 (x:Int)&&&BitVec.ofInt 64 1).toNat=x % 2:=by
  rw [BitVec.toNat_and]
  have e1:(BitVec.ofInt 64 (x:Int)).toNat=x:=by simp [BitVec.toNat_ofInt];omega
  have e2:(BitVec.ofInt 64 1).toNat=1:=by decide
  rw [e1,e2,Nat.and_one_is_mod]
 rw [h1]
 exact yi4 (by unfold InI;omega)
theorem y11 (b c:Nat) (hb:b<=100000) (hc:c<=60):Fn Tryd.prog 23 [I c, .rp (.lst [I b]) 0] (.bool (chB b c)):=by
 have e0:(b:Int)/2^c=((b/2^c:Nat):Int):=by simp
 have hlt:b/2^c<=b:=Nat.div_le_self _ _
 have e1:=yx0 (b/2^c) (by omega)
 have e2:(((b/2^c % 2:Nat):Int)==1)=chB b c:=by
  unfold chB
  by_cases h:b/2^c % 2=1
  ·simp [h]
  ·have:((b/2^c % 2:Nat):Int)≠1:=by omega
   rw [beq_eq_false_iff_ne.2 this,beq_eq_false_iff_ne.2 h]
 refine Fn.intro [.tmp 3] Tryd.func23 rfl rfl (by decide) (by simp [Tryd.ntmps23]) ?_;rw [Tryd.ntmps23]
 repeat' (first|omega|(try apply yaa);simp only [go_sem,sevalprocAttr,e0,e1,e2,Int.toNat_natCast]|apply yab<;>(intro h_;(try simp only [h_]);revert h_)|apply And.intro|with_reducible intro h_|trivial|simp only [go_sem,la2];omega)
theorem y12:Fn Tryd.prog 24 [I (-2), .ro 1 5 (.ints [-1,0,0,0,-1])] (plA false [(-2,-1),(2,-1)]):=by
 have h:=y3b (-2) [-1,0,0,0,-1] (by decide) (by decide) (by decide)
 rw [show tmI (-2) [-1,0,0,0,-1]=[(-2,-1),(2,-1)] by decide] at h
 exact h
theorem yw4 (q:List (Int×Int)):Fn Tryd.prog 25 [.agg [.bool false, .nils],plA false q] (plA false []):=by
 refine Fn.introL [.cell 4 36] Tryd.func25 rfl rfl (by decide) (by simp [Tryd.ntmps25]) ?_;rw [Tryd.ntmps25]
 repeat' (first|omega|(try apply yaa);simp only [go_sem,sevalprocAttr]|apply yab<;>(intro h_;(try simp only [h_]);revert h_)|apply And.intro|with_reducible intro h_|trivial|simp only [go_sem,la2];omega)
 all_goals exact LeA.aggL (.cons (LeA.refl _) (.cons (LeA.nils (by omega) rfl) .nil))
end Go.Proofs.YtngegnonblbdhaaDoor
set_option linter.unusedSimpArgs false
set_option linter.unusedVariables false
namespace Go.Proofs.YtngegnonblbdhaaDoor
open Go Go.RowKit
set_option maxRecDepth 100000
structure yas (p:List (Int×Int)) (f:Int->Int):Prop where
 asc:AscN p
 cf: ∀e,cfL p e=f e
theorem yas.nil:yas [] (fun _=>0):=⟨AscN.nil,fun _=>rfl⟩
theorem yas.congr {p:List (Int×Int)} {f g:Int->Int} (h:yas p f) (e: ∀x,f x=g x):yas p g:=⟨h.asc,fun x=>(h.cf x).trans (e x)⟩
theorem yas.mem {p:List (Int×Int)} {f:Int->Int} (h:yas p f) {t:Int×Int} (ht:t∈p):t.2=f t.1/\f t.1≠0:=by
 have:=ye7 h.asc ht
 rw [h.cf] at this
 exact ⟨this.symm,by rw [this];exact h.asc.nz t ht⟩
theorem yas.len {p:List (Int×Int)} {f:Int->Int} (h:yas p f) (hs: ∀e,f e≠0-> -1000<=e/\e<=1000):p.length<=2001:=by
 have:=h.asc.len (a:= -1000) (b:=1000) fun t ht=>hs _ (h.mem ht).2
 omega
theorem yas.fits {p:List (Int×Int)} {f:Int->Int} (h:yas p f) (hb: ∀e,-1125899906842624<=f e/\f e<=1125899906842624):ye4 p:=fun t ht=>by
 rw [(h.mem ht).1];exact hb _
theorem yas.ok {p:List (Int×Int)} {f:Int->Int} (h:yas p f) (hs: ∀e,f e≠0-> -1000<=e/\e<=1000) (hb: ∀e,-1125899906842624<=f e/\f e<=1125899906842624):yn5 p:=by
 refine ⟨h.fits hb,by have:=h.len hs;omega,fun i j hij hj=>?_,fun i hi=>?_⟩
 ·by_cases e:i=j
  ·subst e;exact Int.le_refl _
  ·have:=List.pairwise_iff_getElem.1 h.asc.asc i j (by omega) hj (by omega)
   simp only [List.getD_eq_getElem?_getD,List.getElem?_eq_getElem hj,List.getElem?_eq_getElem (show i<p.length by omega),Option.getD_some]
   omega
 ·have:=hs _ (h.mem (ybw hi)).2
  omega
theorem yw5 {p:List (Int×Int)} (h:p.Pairwise fun a b=>a.1<b.1) {t:Int×Int} (ht:t∈p):cfL p t.1=t.2:=by
 induction p with
 |nil=>cases ht
 |cons u p ih=>
  have h1:=List.pairwise_cons.1 h
  simp only [cfL]
  rcases List.mem_cons.1 ht with rfl|ht
  ·rw [if_pos rfl,ybs fun v hv=>by have:=h1.1 v hv;omega];omega
  ·rw [if_neg (by have:=h1.1 t ht;omega),ih h1.2 ht];omega
theorem y13 (c e:Int):yas (trm c e) (fun x=>if x=e then c else 0):=by
 unfold trm
 split
 ·rename_i h
  exact yas.nil.congr fun x=>by rw [h];split<;>rfl
 ·rename_i h
  refine ⟨⟨by simp,fun t ht=>by simp only [List.mem_singleton] at ht;subst ht;exact h⟩,fun x=>?_⟩
  simp only [cfL,Int.add_zero]
  by_cases hx:x=e
  ·rw [if_pos hx.symm,if_pos hx]
  ·rw [if_neg (fun h=>hx h.symm),if_neg hx]
theorem dAsc:AscN [(-2,-1),(2,-1)]:=⟨by decide,by decide⟩
theorem y0e {p q:List (Int×Int)} {f g h:Int->Int} (hp:yas p f) (hq:yas q g) (hs: ∀e,f e≠0-> -1000<=e/\e<=1000) (hs2: ∀e,g e≠0-> -1000<=e/\e<=1000)
  (hb: ∀e,-1125899906842624<=f e/\f e<=1125899906842624) (hb2: ∀e,-1125899906842624<=g e/\g e<=1125899906842624) (hh: ∀e,cvL p g e=h e) (hb3: ∀e,-1125899906842624<=h e/\h e<=1125899906842624)
  (hp0:0<p.length) (hq0:0<q.length) (hd:ya6 p+ya6 q-(lowE p+lowE q)<=64+4*(p.length:Int)*q.length):
  ∃r,yas r h/\Fn Tryd.prog 25 [plA false p,plA false q] (plA false r):=by
 have a0:=hs _ (hp.mem (ybw (i:=0) hp0)).2
 have a1:=hs _ (hp.mem (ybw (i:=p.length-1) (by omega))).2
 have b0:=hs2 _ (hq.mem (ybw (i:=0) hq0)).2
 have b1:=hs2 _ (hq.mem (ybw (i:=q.length-1) (by omega))).2
 have hgq:cfL q=g:=funext hq.cf
 have hc: ∀e,cfL (tmI (lowE p+lowE q) (mulZ p q)) e=h e:=fun e=>by rw [yz3 hp.asc hq.asc,hgq,hh]
 refine ⟨_,⟨ylb _ _,hc⟩,y1z p q (hp.ok hs hb) (hq.ok hs2 hb2) hp0 hq0 ?_ ?_ ?_ hd fun z hz=>?_⟩
 ·unfold lowE;omega
 ·unfold ya6;omega
 ·unfold lowE ya6;omega
 ·obtain ⟨i,hi,rfl⟩:=List.mem_iff_getElem.1 hz
  have h1:=yie (lowE p+lowE q) (mulZ p q) (lowE p+lowE q+i)
  rw [if_pos (by omega),show (lowE p+lowE q+(i:Int)-(lowE p+lowE q)).toNat=i by omega,hc] at h1
  have h2:(mulZ p q).getD i 0=(mulZ p q)[i]:=by simp [List.getD_eq_getElem?_getD,hi]
  rw [←h2,←h1];exact hb3 _
theorem y14 {p:List (Int×Int)} {f:Int->Int} (hp:yas p f) (hs: ∀e,f e≠0-> -1000<=e/\e<=1000) (hb: ∀e,-281474976710656<=f e/\f e<=281474976710656) (hd:0<p.length->ya6 p-lowE p+4<=64+8*(p.length:Int)):
  ∃q,yas q (dml f)/\Fn Tryd.prog 25 [plA false p,plA false [(-2,-1),(2,-1)]] (plA false q):=by
 by_cases hp0:0<p.length
 ·have hq:yas [(-2,-1),(2,-1)] (cfL [(-2,-1),(2,-1)]):=⟨dAsc,fun _=>rfl⟩
  refine y0e hp hq hs (fun e he=>?_) (fun e=>by have:=hb e;omega) (fun e=>?_) (h:=dml f) (fun e=>by rw [y29,show cfL p=f from funext hp.cf]) (fun e=>?_) hp0 (by decide) ?_
  ·simp only [cfL] at he
   by_cases h1:(-2:Int)=e
   ·omega
   ·rw [if_neg h1] at he
    by_cases h2:(2:Int)=e
    ·omega
    ·rw [if_neg h2] at he;exact absurd rfl he
  ·simp only [cfL];split<;>split<;>omega
  ·have h1:=hb (e+2)
   have h2:=hb (e-2)
   unfold dml;omega
  ·have:=hd hp0
   have e1:ya6 [((-2:Int),(-1:Int)),(2,-1)]=2:=rfl
   have e2:lowE [((-2:Int),(-1:Int)),(2,-1)]= -2:=rfl
   rw [e1,e2,show ([((-2:Int),(-1:Int)),(2,-1)]:List (Int×Int)).length=2 from rfl]
   omega
 ·obtain rfl:p=[]:=List.length_eq_zero_iff.1 (by omega)
  refine ⟨[],yas.nil.congr fun e=>?_,y0b _⟩
  have h1:=hp.cf (e+2)
  have h2:=hp.cf (e-2)
  simp only [cfL] at h1 h2
  unfold dml;rw [←h1,←h2];rfl
def yko (f:Int->Int):List (Int×Int):=tmI (-1000) ((List.range 2001).map fun (i:Nat)=>f ((i:Int)-1000))
theorem yht {f:Int->Int} (hs: ∀e,f e≠0-> -1000<=e/\e<=1000):yas (yko f) f:=by
 refine ⟨ylb _ _,fun e=>?_⟩
 unfold yko
 rw [yie]
 by_cases h0:f e=0
 ·rw [h0]
  split
  ·by_cases h1:(e- -1000).toNat<2001
   ·simp only [List.getD_eq_getElem?_getD,List.getElem?_map,List.getElem?_range h1,Option.map_some,Option.getD_some]
    rw [show (((e- -1000).toNat:Nat):Int)-1000=e by omega,h0]
   ·rw [List.getD_eq_getElem?_getD,List.getElem?_eq_none (by simp;omega)];rfl
  ·rfl
 ·have:=hs e h0
  rw [if_pos (by omega)]
  have h1:(e- -1000).toNat<2001:=by omega
  simp only [List.getD_eq_getElem?_getD,List.getElem?_map,List.getElem?_range h1,Option.map_some,Option.getD_some]
  rw [show (((e- -1000).toNat:Nat):Int)-1000=e by omega]
theorem yas.eq {p:List (Int×Int)} {f:Int->Int} (h:yas p f) (hs: ∀e,f e≠0-> -1000<=e/\e<=1000):p=yko f:=
 AscN.ext h.asc (yht hs).asc fun e=>by rw [h.cf,(yht hs).cf]
def brP (m:List Int) (n L:Nat):List (Int×Int):=yko (brT m n L 1)
theorem ye9 {m:List Int} {n L:Nat} (hp:PmOk m n) (hn:n<=9) (hL:L<=20) {j:Nat} (hj:1<=j) {e:Int} (he:brT m n L j e≠0): -1000<=e/\e<=1000:=by
 have h1:=ydj hp he
 have h2:=ycj hp (fun _=>true)
 have h3:=ycj hp (fun _=>false)
 omega
theorem yle {m:List Int} {n L:Nat} (hp:PmOk m n) (hn:n<=9) (hL:L<=20) {j:Nat} (hj:1<=j) (e:Int): -70368744177664<=brT m n L j e/\brT m n L j e<=70368744177664:=by
 have h1:=yz8 hp (L:=L) (j:=j) (M:=37) (by omega) e
 have h2:2^(37+n)<=2^46:=Nat.pow_le_pow_right (by omega) (by omega)
 omega
theorem yw6 {m:List Int} {n L K j:Nat} {r:List Int} (h:rowB m n L K (j:Int)=some r) (hK:K<=512) (hn:n<=9) (x:Nat) (hx:x<=n+1) (e:Int): -10000<=rowT n r x e/\rowT n r x e<=10000:=by
 unfold rowT
 have:=yn7 (f:=fun y=>if e=(n:Int)-2*y then r.getD y 0 else 0) (b:=512) (n:=x) fun y hy=>by
  have:=yg4 h (x:=y) (by omega)
  split<;>omega
 omega
theorem yw7 {n:Nat} {r:List Int} (hn:n<=9) {x:Nat} (hx:x<=n+1) {e:Int} (he:rowT n r x e≠0): -1000<=e/\e<=1000:=by
 obtain ⟨y,hy,h⟩:=yrv he
 by_cases h1:e=(n:Int)-2*y
 ·omega
 ·exact absurd (if_neg h1) h
end Go.Proofs.YtngegnonblbdhaaDoor
set_option linter.unusedSimpArgs false
set_option linter.unusedVariables false
namespace Go.Proofs.YtngegnonblbdhaaDoor
open Go Go.RowKit
set_option maxRecDepth 100000
theorem y15 {p q:List (Int×Int)} {f g:Int->Int} (hp:yas p f) (hq:yas q g) (hs: ∀e,f e≠0-> -1000<=e/\e<=1000) (ht: ∀e,g e≠0-> -1000<=e/\e<=1000)
  (hf: ∀e,-562949953421312<=f e/\f e<=562949953421312) (hg: ∀e,-562949953421312<=g e/\g e<=562949953421312):
  ∃r,yas r (fun e=>f e+g e)/\Fn Tryd.prog 26 [plA false p,plA false q] (plA false r):=by
 have ha:=yz1 addF p q hp.asc.asc hq.asc.asc
 have hc: ∀x,cfL (mrg addF p q) x=f x+g x:=fun x=>by rw [yz2 addF rfl p q hp.asc.asc hq.asc.asc,hp.cf,hq.cf];rfl
 refine ⟨nz (mrg addF p q),⟨y1y ha,fun e=>by rw [y1x,hc]⟩,y10 p q (hp.fits fun e=>by have:=hf e;omega) (hq.fits fun e=>by have:=hg e;omega) (by have:=hp.len hs;omega) (by have:=hq.len ht;omega) ?_⟩
 unfold yc2
 rw [List.all_eq_true]
 intro t ht
 have:=yw5 ha ht
 rw [hc] at this
 have h1:=hf t.1
 have h2:=hg t.1
 exact yjm (by omega) (by omega)
end Go.Proofs.YtngegnonblbdhaaDoor
set_option linter.unusedSimpArgs false
set_option linter.unusedVariables false
namespace Go.Proofs.YtngegnonblbdhaaDoor
end Go.Proofs.YtngegnonblbdhaaDoor
set_option linter.unusedSimpArgs false
set_option linter.unusedVariables false
namespace Go.Proofs.YtngegnonblbdhaaDoor
open Go Go.RowKit
theorem yhu (H:Hp) (i j:Nat):hget (H++[(i, .gone)]) j=match hget H j with|some o=>some o|none=>if i=j then some .gone else none:=by
 induction H with
 |nil=>simp [hget]
 |cons p H ih=>
  obtain ⟨k,o⟩:=p
  rw [List.cons_append]
  simp only [hget]
  by_cases e:k=j
  ·rw [if_pos e,if_pos e]
  ·rw [if_neg e,if_neg e];exact ih
theorem Wk.gone {fr:Fr} {H:Hp} (i:Nat) (h:hget H i=none):Wk fr H fr (H++[(i, .gone)]):=by
 intro B w0 Mx N w ρ a hs
 have up: ∀j o,hget H j=some o->hget (H++[(i, .gone)]) j=some o:=fun j o hj=>by rw [yhu,hj]
 have dn: ∀j o,hget (H++[(i, .gone)]) j=some o->o= .gone\/hget H j=some o:=fun j o hj=>by
  rw [yhu] at hj
  cases hq:hget H j with
  |some o'=>rw [hq] at hj;exact .inr hj
  |none=>
   rw [hq] at hj
   simp only at hj
   split at hj
   ·cases hj;exact .inl rfl
   ·cases hj
 have dl: ∀j o,hget (H++[(i, .gone)]) j=some o->o.live=true->hget H j=some o:=fun j o hj hl=>by
  rcases dn j o hj with rfl|h2
  ·cases hl
  ·exact h2
 have hM: ∀b,¬MM Mx H ρ b-> ¬MM Mx (H++[(i, .gone)]) ρ b:=fun b hn hm=>hn (by
  rcases hm with h1|⟨id,o,h1,h2,h3⟩
  ·exact .inl h1
  ·exact .inr ⟨id,o,dl id o h1 h2,h2,h3⟩)
 have hc: ∀{v:Value} {x:AV},VR w (MM Mx H ρ) ρ (DD H) v x->VR w (MM Mx (H++[(i, .gone)]) ρ) ρ (DD (H++[(i, .gone)])) v x:=fun hv=>
  hv.carry (Nat.le_refl _) (fun b _ hm=>⟨rfl,hM b hm⟩) (fun id hd=>⟨let ⟨o,ho⟩:=hd;⟨o,up id o ho⟩,rfl,fun arr t ha=>⟨arr,ha,rfl⟩⟩)
 refine ⟨ρ,hs.below,hs.hB,hs.mx,fun id o h1 h2=>hs.own id o (dl id o h1 h2) h2,fun id o h1=>?_,fun id o id' o' h1 h2 h3 h4 h5=>hs.inj id o id' o' (dl _ _ h1 h2) h2 (dl _ _ h3 h4) h4 h5,fun t=>hc (hs.frv t),hs.defers,hs.size⟩
 rcases dn id o h1 with rfl|h2
 ·trivial
 have hr:=hs.objs id o h2
 cases o with
 |gone=>trivial
 |cells t c=>
  obtain ⟨g1,arr,g2,g3,g4⟩:=hr
  exact ⟨g1,arr,g2,g3,fun j hj=>let ⟨u,hu,hv⟩:=g4 j hj;⟨u,hu,hc hv⟩⟩
 |gmap t ck l=>
  obtain ⟨es,g1,g2,g3⟩:=hr
  exact ⟨es,g1,g2,fun j e' q he hl=>let ⟨k1,k2,k3⟩:=g3 j e' q he hl;⟨k1,k2,hc k3⟩⟩
 |iter mid s sn la=>
  obtain ⟨g1,g2,g3⟩:=hr
  obtain ⟨om,hom⟩:=g1
  exact ⟨⟨om,up mid om hom⟩,g2,g3⟩
 |imap t l=>
  obtain ⟨g0,es,ck,g1,g2,g3⟩:=hr
  exact ⟨g0,es,ck,g1,g2,fun j e' k x he hl=>let ⟨k1,k2,k3⟩:=g3 j e' k x he hl;⟨k1,hc k2,k3⟩⟩
 |fmap t c=>exact hr
end Go.Proofs.YtngegnonblbdhaaDoor
