/- Layer 17: the closures of the braids on two strands: order, width, validity; what the walk of sweep needs. -/
import Derived.Test.YtmdjdekgakidhaaDoorZp
import Derived.Test.YtmdjdekgakidhaaDoorSx4
import Derived.Test.YtmdjdekgakidhaaDoorTo1
import Derived.Test.YtmdjdekgakidhaaDoorZn
import Derived.Test.YtmdjdekgakidhaaDoorTd1
namespace Go.Proofs.YtmdjdekgakidhaaDoor
set_option maxRecDepth 100000
set_option linter.unusedVariables false
set_option linter.unusedSimpArgs false
theorem y3w (k:Nat):(tuO k).length=k:=by simp [tuO]
theorem yne (k:Nat) (x:Int):x∈tuO k↔0<=x/\x<k:=by
 unfold tuO
 rw [List.mem_map]
 constructor
 ·rintro ⟨i,hi,rfl⟩;have:=List.mem_range.1 hi;omega
 ·rintro ⟨h1,h2⟩;exact ⟨x.toNat,List.mem_range.2 (by omega),by omega⟩
theorem y5o {n c:Nat} (h:c<n):(tuX n).getD (4*c) 0/4=(if c=0 then (n:Int)-1 else (c:Int)-1)/\(tuX n).getD (4*c+1) 0/4=(if c+1=n then 0 else (c:Int)+1)/\
  (tuX n).getD (4*c+2) 0/4=(if c+1=n then 0 else (c:Int)+1)/\(tuX n).getD (4*c+3) 0/4=(if c=0 then (n:Int)-1 else (c:Int)-1):=by
 rw [yd0 h,yd1 h]
 have hv:(nxV n c:Int)=if c+1=n then 0 else (c:Int)+1:=by unfold nxV;split<;>omega
 rw [hv]
 by_cases h0:c=0
 ·subst h0
  have e0:(tuX n).getD (4*0) 0=4*((n:Int)-1)+1:=yf7 h
  have e3:(tuX n).getD (4*0+3) 0=4*((n:Int)-1)+2:=yf8 h
  rw [e0,e3,if_pos rfl]
  refine ⟨by omega,?_,?_,by omega⟩<;>split<;>omega
 ·rw [ymg (by omega) h,ymh (by omega) h,if_neg h0]
  refine ⟨by omega,?_,?_,by omega⟩<;>split<;>omega
theorem y0w {n:Nat} (hn:n<41) {c k:Nat} (hc:c<n) (hk:0<k) (hkn:k<n):(c=k->2<=eN (tuX n) (tuO k) c 4)/\(k<c->eN (tuX n) (tuO k) c 4<=2):=by
 obtain ⟨h0,h1,h2,h3⟩:=y5o hc
 simp only [eN,yne,Nat.add_zero,h0,h1,h2,h3]
 refine ⟨fun e=>?_,fun e=>?_⟩<;>(repeat' split)<;>omega
theorem yuc (m:List Int) (c:Nat): ∀s,eN m (tuO 0) c s=0
 |0=>rfl
 |s+1=>by simp only [eN,yuc m c s];rw [if_neg (by simp [tuO])]
theorem y0x {n:Nat} (hn:n<41) {k:Nat} (hk:k<n): ∀c,c<=n->bsN (tuX n) (tuO k) c=if c<=k then-1 else (k:Int)
 |0,_=>by rw [if_pos (by omega)];rfl
 |c+1,hc=>by
  have ih:=y0x hn hk c (by omega)
  simp only [bsN,ih]
  by_cases h1:c<k
  ·rw [if_pos ((yne _ _).2 ⟨by omega,by omega⟩),if_pos (by omega),if_pos (by omega)]
  ·rw [if_neg fun h=>by have:=(yne _ _).1 h;omega]
   by_cases h2:c=k
   ·subst h2
    rw [if_pos (Nat.le_refl _),if_pos (.inl (by decide)),if_neg (by omega)]
   ·rw [if_neg (c:=c<=k) (by omega),if_neg (c:=c+1<=k) (by omega),if_neg]
    rintro (h|h)
    ·omega
    ·rw [show ((k:Int)).toNat=k by omega] at h
     by_cases h3:k=0
     ·subst h3;rw [yuc,yuc] at h;omega
     ·have a:=(y0w hn (c:=c) (k:=k) (by omega) (by omega) hk).2 (by omega)
      have b:=(y0w hn (c:=k) (k:=k) hk (by omega) hk).1 rfl
      omega
theorem yw5 {n:Nat} (hn:n<41): ∀k,k<=n->orN (tuX n) n k=tuO k
 |0,_=>rfl
 |k+1,hk=>by
  simp only [orN,yw5 hn k (by omega)]
  rw [y0x hn (by omega) n (Nat.le_refl _),if_neg (by omega)]
  simp [tuO,List.range_succ]
theorem yud {n k:Nat} (hk:k<n):(List.range n).getD k 0=k:=by simp [List.getD_eq_getElem?_getD,hk]
theorem y60 {n k:Nat} (hk:k<n):spN ((List.range n).drop (k+1))=if k+1=n then 1 else 0:=by
 by_cases h:k+1=n
 ·rw [if_pos h,List.drop_eq_nil_of_le (by simp;omega)];rfl
 ·rw [if_neg h,yby (show k+1<(List.range n).length by simp;omega)];rfl
theorem yhb {n:Nat} (hn:n<41): ∀k,k<=n->plE (tuX n) (List.range n) k=tuE n k
 |0,_=>by unfold tuE;rw [if_pos (.inl rfl)];rfl
 |k+1,hk=>by
  simp only [plE]
  rw [yhb hn k (by omega),yud (by omega)]
  exact (yjt (by omega)).1
theorem ynf (n k:Nat):(tuE n k).length<=4:=by
 unfold tuE
 split
 ·simp
 ·split<;>simp
structure TuS (n k:Nat) (sd:List PE):Prop where
 ok:GOk (tuE n k).length (k:Int) (2+200*(k:Int)) sd
 pos:1<=sd.length
 ky: ∀g∈sd,dK g.key=tuA n k\/(k≠0/\k≠n/\dK g.key=tuB n k)
 va: ∀e,sumG (vkS (tuA n k) e) sd=tuV n k e
 vb: ∀e,sumG (vkS (tuB n k) e) sd=tuW n k e
def pe0:PE:=⟨ByteArray.empty,0,[]⟩
structure TuM (n k:Nat) (sd:List PE) (sn:List Nat) (G:List PE):Prop where
 nd:sn.Nodup
 rg: ∀i∈sn,i<sd.length
 ok:GOk (tuE n (k+1)).length ((k:Int)+1) (2+200*(k:Int)+200) G
 len:G.length<=2*sn.length
 pos:sn≠[]->1<=G.length
 ky: ∀g∈G,dK g.key=tuA n (k+1)\/(k+1≠n/\dK g.key=tuB n (k+1))
 mx: ∀x∈G,mxN x.cs<=1536*sn.length
 va: ∀T e,sumG (vkS T e) G=(sn.map fun i=>cbS (tuX n) k (if k+1=n then 1 else 0) (tuE n k) T e (dK (sd.getD i pe0).key) (pfE (sd.getD i pe0).lo (sd.getD i pe0).cs)).sum
theorem TuM.init (n k:Nat) (sd:List PE):TuM n k sd [] []:=
 ⟨by simp,by simp,GOk.nil _ _ _,by simp,by simp,by simp,by simp,fun T e=>rfl⟩
theorem TuS.init {n:Nat} (hn:0<n):TuS n 0 [⟨pS [],0,[1]⟩]:=by
 have hd:dK (pS [])=[]:=yeo (by simp)
 have hA:tuA n 0=[]:=by unfold tuA;rw [if_pos (.inl rfl)]
 have hB:tuB n 0=[0]:=by unfold tuB;rw [if_pos (.inl rfl)]
 have hE:tuE n 0=[]:=by unfold tuE;rw [if_pos (.inl rfl)]
 refine ⟨⟨by simp [ybd],fun g hg=>?_,fun g hg=>?_,fun g hg=>?_,fun g hg=>?_⟩,by simp,fun g hg=>?_,fun e=>?_,fun e=>?_⟩
 ·simp only [List.mem_cons,List.not_mem_nil,or_false] at hg
  subst hg
  dsimp only
  rw [hd,hE]
  exact ⟨rfl,rfl,fun x hx=>by simp at hx,fun x hx=>by simp at hx,fun x hx=>by simp at hx⟩
 ·simp only [List.mem_cons,List.not_mem_nil,or_false] at hg
  subst hg;simp
 ·simp only [List.mem_cons,List.not_mem_nil,or_false] at hg
  subst hg;simp
 ·simp only [List.mem_cons,List.not_mem_nil,or_false] at hg
  subst hg;simp
 ·simp only [List.mem_cons,List.not_mem_nil,or_false] at hg
  subst hg;left;rw [hA];exact hd
 ·simp only [sumG,vkS,hd,hA,if_true,Int.add_zero]
  unfold tuV
  rw [if_neg (by omega)]
  unfold pfE
  by_cases h0:e=0
  ·subst h0;rfl
  ·rw [if_neg (c:=e=((0:Nat):Int)) (by omega)]
   split
   ·rename_i h
    obtain ⟨j,hj⟩: ∃j,((e-0)/2).toNat=j+1:=⟨((e-0)/2).toNat-1,by omega⟩
    rw [hj];rfl
   ·rfl
 ·simp only [sumG,vkS,hd,hB]
  unfold tuW
  rw [if_neg (c:=([]:List Nat)=[0]) (by decide),if_neg (c:=0=n) (by omega)];rfl
theorem TuS.mx {n k:Nat} {sd:List PE} (h:TuS n k sd): ∀g∈sd,mxN g.cs<=3:=fun g hg=>yg6.2 fun i=>by
 have h1:=ync h.ok.nd (fun x hx=>(h.ok.ok x hx).1) hg (g.lo+2*(i:Int))
 rw [yde] at h1
 rw [←h1]
 have hb:=y3s n k (g.lo+2*(i:Int))
 rcases h.ky g hg with e|⟨_,_,e⟩
 ·rw [e,h.va];exact hb.1
 ·rw [e,h.vb];exact hb.2
theorem TuS.len {n k:Nat} {sd:List PE} (h:TuS n k sd):sd.length<=2:=by
 have hk: ∀g∈sd,g.key=pS (tuA n k)\/g.key=pS (tuB n k):=fun g hg=>by
  rw [(h.ok.ok g hg).1]
  rcases h.ky g hg with e|⟨_,_,e⟩
  ·rw [e];exact .inl rfl
  ·rw [e];exact .inr rfl
 have hn:=h.ok.nd
 unfold ybd at hn
 match sd,hk,hn with
 |[],_,_=>simp
 |[a],_,_=>simp
 |[a,b],_,_=>simp
 |a::b::c::r,hk,hn=>
  exfalso
  simp only [List.map_cons,List.nodup_cons,List.mem_cons,not_or] at hn
  have ha:=hk a (by simp)
  have hb:=hk b (by simp)
  have hc:=hk c (by simp)
  have n1:a.key≠b.key:=hn.1.1
  have n2:a.key≠c.key:=hn.1.2.1
  have n3:b.key≠c.key:=hn.2.1.1
  rcases ha with ha|ha<;>rcases hb with hb|hb<;>rcases hc with hc|hc<;>first|exact n1 (ha.trans hb.symm)|exact n2 (ha.trans hc.symm)|exact n3 (hb.trans hc.symm)
theorem TuS.cc {n k:Nat} (hn:n<41) (hk:k<n) {sd:List PE} (h:TuS n k sd) {g:PE} (hg:g∈sd) (b:Bool):ccN (tuX n) (tuE n k) k (dK g.key) b<=2:=by
 obtain ⟨_,_,_,c1,c2,c3⟩:=yjt hk
 rcases h.ky g hg with e|⟨h0,_,e⟩
 ·rw [e]
  cases b
  ·rw [c1];split<;>decide
  ·rw [c2];split<;>decide
 ·rcases c3 with c3|⟨_,_,c3,c4⟩
  ·exact absurd c3 h0
  ·rw [e]
   cases b
   ·rw [c3];split<;>decide
   ·rw [c4];split<;>decide
theorem TuS.nx {n k:Nat} (hn:n<41) (hk:k<n) {sd:List PE} (h:TuS n k sd) {g:PE} (hg:g∈sd) (b:Bool):nxT (tuX n) (tuE n k) k (dK g.key) b=tuA n (k+1)\/(k+1≠n/\nxT (tuX n) (tuE n k) k (dK g.key) b=tuB n (k+1)):=by
 obtain ⟨_,c1,c2,_,_,c3⟩:=yjt hk
 have hA:k+1=n->tuA n (k+1)=[]:=fun e=>by unfold tuA;rw [if_pos (.inr e)]
 rcases h.ky g hg with e|⟨h0,_,e⟩
 ·rw [e]
  cases b
  ·exact .inl c1
  ·rw [c2]
   by_cases h:k+1=n
   ·rw [if_pos h];exact .inl (hA h).symm
   ·rw [if_neg h];exact .inr ⟨h,rfl⟩
 ·rcases c3 with c3|⟨c3,c4,_⟩
  ·exact absurd c3 h0
  ·rw [e]
   by_cases h:k+1=n
   ·left
    rw [if_pos h] at c3 c4
    cases b
    ·rw [c3,hA h]
    ·rw [c4,hA h]
   ·right
    rw [if_neg h] at c3 c4
    cases b
    ·exact ⟨h,c3⟩
    ·exact ⟨h,c4⟩
theorem TuM.step {n k:Nat} (hn:n<41) (hk:k<n) (hp:PmOk (tuX n) n) {P:List Nat} (he:yda (tuX n) n P (tuE n k)) (hcP:k∉P) {sd:List PE} (hS:TuS n k sd) {sn:List Nat} {G:List PE} (h:TuM n k sd sn G) {i:Nat} {g:PE} (hi:sd[i]?=some g) (hni:i∉sn):
  TuM n k sd (sn++[i]) (exG (tuX n) k (if k+1=n then 1 else 0) (tuE n k) G g):=by
 have hg:g∈sd:=List.mem_of_getElem? hi
 have hgo:=hS.ok.ok g hg
 have e1:=(yjt hk).1
 have hgd:sd.getD i pe0=g:=by rw [List.getD_eq_getElem?_getD,hi];rfl
 have hex:=yst (tuX n) k (if k+1=n then 1 else 0) (tuE n k) G g
 have l1:=ynf n k
 have l2:=ynf n (k+1)
 have hok:=h.ok
 rw [←e1] at hok
 have q:=fun b=>(yb2 hp he hgo.2 hk hcP (fun _=>b)).1
 have hEx:=ywr hp he hk hcP (by omega) (by rw [e1];omega) hgo.2 (hS.ok.pr g hg) (hS.ok.rg g hg) (hS.ok.ne g hg) (if k+1=n then 1 else 0) hok
 refine ⟨?_,fun j hj=>?_,?_,?_,fun _=>hex.2,fun x hx=>?_,fun x hx=>?_,fun T e=>?_⟩
 ·rw [List.nodup_append]
  refine ⟨h.nd,by simp,fun x hx y hy e=>?_⟩
  simp only [List.mem_cons,List.not_mem_nil,or_false] at hy
  exact hni (hy▸e▸hx)
 ·rcases List.mem_append.1 hj with hj|hj
  ·exact h.rg j hj
  ·simp only [List.mem_cons,List.not_mem_nil,or_false] at hj
   subst hj;exact (List.getElem?_eq_some_iff.1 hi).1
 ·rw [←e1];exact hEx
 ·have:=h.len
  simp only [List.length_append,List.length_cons,List.length_nil];omega
 ·rcases y3u _ _ _ _ _ _ hx with hk2|hk2|⟨y,hy,hk2⟩
  ·rw [hk2,yeo ((q false).lt (by rw [e1];omega))];exact hS.nx hn hk hg false
  ·rw [hk2,yeo ((q true).lt (by rw [e1];omega))];exact hS.nx hn hk hg true
  ·rw [←hk2];exact h.ky y hy
 ·have:=y5l (tuX n) k (if k+1=n then 1 else 0) (tuE n k) (b:=0) h.mx (hS.mx g hg) (fun t=>by have:=hS.cc hn hk hg t;omega) x hx
  simp only [List.length_append,List.length_cons,List.length_nil];omega
 ·rw [y5k hp he hk hcP (by omega) (by rw [e1];omega) hgo.2 (hS.ok.pr g hg) _ (hS.ok.rg g hg) (hS.ok.ne g hg) hok T e]
  rw [List.map_append,List.map_cons,List.map_nil,ysy,hgd,←h.va T e]
theorem yzw {n k:Nat} (hn:n<41) (hk:k<n) (e:Int):cbS (tuX n) k (if k+1=n then 1 else 0) (tuE n k) (tuA n (k+1)) e (tuA n k) (tuV n k)+cbS (tuX n) k (if k+1=n then 1 else 0) (tuE n k) (tuA n (k+1)) e (tuB n k) (tuW n k)=tuV n (k+1) e:=by
 obtain ⟨_,c1,c2,c3,c4,c5⟩:=yjt hk
 have hV: ∀x,tuV n k x=if x=(k:Int) then 1 else 0:=fun x=>by unfold tuV;rw [if_neg (by omega)]
 have hW: ∀x,tuW n k x=tuF k x:=fun x=>by unfold tuW;rw [if_neg (by omega)]
 have hAB:=tuAB n (k+1)
 by_cases hl:k+1=n
 ·have hA:tuA n (k+1)=[]:=by unfold tuA;rw [if_pos (.inr hl)]
  rw [if_pos hl] at c2 c3 c4⊢
  have e1:cbS (tuX n) k 1 (tuE n k) (tuA n (k+1)) e (tuA n k) (tuV n k)= -(if e=(k:Int)+3 then 1 else 0):=by
   unfold cbS
   rw [c1,c2,c3,c4,if_pos rfl,if_pos hA.symm]
   simp only [dmn,dml,hV,Nat.sub_self,show 2-1=1 from rfl]
   repeat' split
   all_goals omega
  have e2:cbS (tuX n) k 1 (tuE n k) (tuA n (k+1)) e (tuB n k) (tuW n k)= -(tuF k (e+3)):=by
   rcases c5 with rfl|⟨d1,d2,d3,d4⟩
   ·rw [show tuW n 0=fun _=>0 from funext fun x=>by rw [hW];rfl,yga];rfl
   ·rw [if_pos hl] at d1 d2 d3 d4
    unfold cbS
    rw [d1,d2,d3,d4,hA,if_pos rfl,if_pos rfl]
    simp only [dmn,dml,hW,Nat.sub_self,show 2-1=1 from rfl]
    rw [show e+2- -1=e+3 by omega,show e-2- -1=e-1 by omega]
    omega
  rw [e1,e2]
  unfold tuV tuR
  rw [if_pos hl,←hl]
  simp only [tuF]
  rw [show ((k+1:Nat):Int)=(k:Int)+1 by omega]
  repeat' split
  all_goals omega
 ·rw [if_neg hl] at c2 c3 c4⊢
  have e1:cbS (tuX n) k 0 (tuE n k) (tuA n (k+1)) e (tuA n k) (tuV n k)=if e=(k:Int)+1 then 1 else 0:=by
   unfold cbS
   rw [c1,c2,c3,if_pos rfl,if_neg hAB.symm]
   simp only [dmn,hV,Nat.sub_self]
   repeat' split
   all_goals omega
  have e2:cbS (tuX n) k 0 (tuE n k) (tuA n (k+1)) e (tuB n k) (tuW n k)=0:=by
   rcases c5 with rfl|⟨d1,d2,d3,d4⟩
   ·rw [show tuW n 0=fun _=>0 from funext fun x=>by rw [hW];rfl,yga]
   ·rw [if_neg hl] at d1 d2
    unfold cbS
    rw [d1,d2,if_neg hAB.symm,if_neg hAB.symm];rfl
  rw [e1,e2]
  unfold tuV
  rw [if_neg hl,show ((k+1:Nat):Int)=(k:Int)+1 by omega];omega
theorem yzx {n k:Nat} (hn:n<41) (hk:k<n) (e:Int):cbS (tuX n) k (if k+1=n then 1 else 0) (tuE n k) (tuB n (k+1)) e (tuA n k) (tuV n k)+cbS (tuX n) k (if k+1=n then 1 else 0) (tuE n k) (tuB n (k+1)) e (tuB n k) (tuW n k)=tuW n (k+1) e:=by
 obtain ⟨_,c1,c2,c3,c4,c5⟩:=yjt hk
 have hV: ∀x,tuV n k x=if x=(k:Int) then 1 else 0:=fun x=>by unfold tuV;rw [if_neg (by omega)]
 have hW: ∀x,tuW n k x=tuF k x:=fun x=>by unfold tuW;rw [if_neg (by omega)]
 have hAB:=tuAB n (k+1)
 by_cases hl:k+1=n
 ·have hA:tuA n (k+1)=[]:=by unfold tuA;rw [if_pos (.inr hl)]
  rw [hA] at hAB
  rw [if_pos hl] at c2 c3 c4⊢
  have e1:cbS (tuX n) k 1 (tuE n k) (tuB n (k+1)) e (tuA n k) (tuV n k)=0:=by
   unfold cbS
   rw [c1,c2,hA,if_neg hAB,if_neg hAB];rfl
  have e2:cbS (tuX n) k 1 (tuE n k) (tuB n (k+1)) e (tuB n k) (tuW n k)=0:=by
   rcases c5 with rfl|⟨d1,d2,d3,d4⟩
   ·rw [show tuW n 0=fun _=>0 from funext fun x=>by rw [hW];rfl,yga]
   ·rw [if_pos hl] at d1 d2
    unfold cbS
    rw [d1,d2,if_neg hAB,if_neg hAB];rfl
  rw [e1,e2]
  unfold tuW
  rw [if_pos hl];rfl
 ·rw [if_neg hl] at c2 c3 c4⊢
  have e1:cbS (tuX n) k 0 (tuE n k) (tuB n (k+1)) e (tuA n k) (tuV n k)=if e=(k:Int)-1 then 1 else 0:=by
   unfold cbS
   rw [c1,c2,c4,if_neg hAB,if_pos rfl]
   simp only [dmn,hV,Nat.sub_self]
   repeat' split
   all_goals omega
  have e2:cbS (tuX n) k 0 (tuE n k) (tuB n (k+1)) e (tuB n k) (tuW n k)= -(tuF k (e+3)):=by
   rcases c5 with rfl|⟨d1,d2,d3,d4⟩
   ·rw [show tuW n 0=fun _=>0 from funext fun x=>by rw [hW];rfl,yga];rfl
   ·rw [if_neg hl] at d1 d2 d3 d4
    unfold cbS
    rw [d1,d2,d3,d4,if_pos rfl]
    simp only [dmn,dml,hW,Nat.sub_self,if_true,show 1-0=1 from rfl]
    rw [show e+2- -1=e+3 by omega,show e-2- -1=e-1 by omega]
    omega
  rw [e1,e2]
  unfold tuW
  rw [if_neg hl]
  simp only [tuF]
  omega
theorem TuM.all {n k:Nat} (hn:n<41) (hk:k<n) {sd:List PE} (hS:TuS n k sd) {sn:List Nat} {G:List PE} (h:TuM n k sd sn G) (ha: ∀i,i<sd.length->i∈sn):TuS n (k+1) G:=by
 have hp:=yqu h.nd h.rg ha
 have hsl:sn.length=sd.length:=by have:=hp.length_eq;simpa using this
 have hpos:=hS.pos
 have key: ∀T e,sumG (vkS T e) G=cbS (tuX n) k (if k+1=n then 1 else 0) (tuE n k) T e (tuA n k) (tuV n k)+cbS (tuX n) k (if k+1=n then 1 else 0) (tuE n k) T e (tuB n k) (tuW n k):=fun T e=>by
  rw [h.va T e,yh2 (hp.map _),yla (fun g=>cbS (tuX n) k (if k+1=n then 1 else 0) (tuE n k) T e (dK g.key) (pfE g.lo g.cs))]
  rw [ys3 (Φ:=fun t f=>cbS (tuX n) k (if k+1=n then 1 else 0) (tuE n k) T e t f) (fun t f g=>y3t ..) (fun t=>yga ..) (tuAB n k) sd fun g hg=>by
   rcases hS.ky g hg with e|⟨_,_,e⟩
   ·exact .inl e
   ·exact .inr e]
  rw [show (fun x=>sumG (vkS (tuA n k) x) sd)=tuV n k from funext hS.va,show (fun x=>sumG (vkS (tuB n k) x) sd)=tuW n k from funext hS.vb]
 refine ⟨?_,h.pos (fun e=>by rw [e] at hsl;simp at hsl;omega),fun g hg=>?_,fun e=>?_,fun e=>?_⟩
 ·have e2:2+200*((k+1:Nat):Int)=2+200*(k:Int)+200:=by omega
  rw [e2,show ((k+1:Nat):Int)=(k:Int)+1 by omega]
  exact h.ok
 ·rcases h.ky g hg with e|⟨e1,e⟩
  ·exact .inl e
  ·exact .inr ⟨by omega,e1,e⟩
 ·rw [key];exact yzw hn hk e
 ·rw [key];exact yzx hn hk e
theorem y61 {n:Nat} (hn:n<41) (hn0:0<n) (hp:PmOk (tuX n) n):Swp (tuX n) n (List.range n) (fun k sd=>k<=n/\TuS n k sd) (fun k sd sn G=>TuM n k sd sn G):=by
 have hnd:(List.range n).Nodup:=List.nodup_range
 have hl:(List.range n).length=n:=List.length_range
 have hr: ∀c∈List.range n,c<n:=fun c hc=>List.mem_range.1 hc
 refine ⟨⟨by omega,TuS.init hn0⟩,fun {k sd} hk hS=>⟨?_,?_,hS.2.pos,fun hkn g hg b=>?_,fun g hg=>?_⟩,fun {k sd} _=>TuM.init n k sd,fun {k sd sn G} hk hS hM=>⟨hM.nd,hM.rg,?_,hM.len,fun x hx=>?_⟩,fun {k sd sn G i g} hk hS hM hi hni=>?_,fun {k sd sn G} hk hS hM ha=>⟨hk,hM.all hn hk hS.2 ha⟩,fun k hk=>?_⟩
 ·rw [yhb hn k hk];exact hS.2.ok
 ·have:=hS.2.len;omega
 ·rw [yhb hn k hk,yud hkn]
  have h1:=hS.2.cc hn hkn hg b
  have h2:=hS.2.mx g hg
  have h3:2^ccN (tuX n) (tuE n k) k (dK g.key) b<=2^2:=Nat.pow_le_pow_right (by omega) h1
  have h4:=Nat.mul_le_mul h3 h2
  omega
 ·have:=hS.2.mx g hg;omega
 ·rw [yhb hn (k+1) (by omega)];exact hM.ok
 ·have h1:=hM.mx x hx
  have h2:=hS.2.len
  have h3:=yay hM.nd (k:=List.range sd.length) fun i hi=>List.mem_range.2 (hM.rg i hi)
  simp only [List.length_range] at h3
  omega
 ·obtain ⟨s1,_⟩:=ydc hp hnd hl hr k (by omega)
  rw [yby (by omega)] at s1
  have hd:=s1.dj _ (List.mem_cons_self ..)
  have he:=s1.he
  rw [yhb hn k (by omega)] at he⊢
  rw [yud hk] at hd⊢
  rw [y60 hk]
  exact hM.step hn hk hp he hd.1 hS.2 hi hni
 ·rw [yhb hn k hk];have:=ynf n k;omega
theorem y3x {n:Nat} {p:List (Int×Int)} (h:yap p (tuR n)):n<=p.length:=by
 have hsub:=ymr (l:=(List.range n).map fun i:Nat=>if i=0 then (n:Int)+2 else (n:Int)-2-4*(i:Int)) (k:=p.map (·.1)) ?_ ?_
 ·simpa using hsub
 ·unfold List.Nodup
  rw [List.pairwise_map]
  refine List.Pairwise.imp (fun {a b} hab=>?_) List.nodup_range
  intro e
  split at e<;>split at e<;>omega
 ·intro x hx
  obtain ⟨i,hi,rfl⟩:=List.mem_map.1 hx
  have hin:=List.mem_range.1 hi
  have hne:tuR n (if i=0 then (n:Int)+2 else (n:Int)-2-4*(i:Int))≠0:=by
   unfold tuR
   rw [ymi]
   by_cases h0:i=0
   ·rw [if_pos h0,if_neg (by omega),if_pos rfl,if_neg (by omega)];decide
   ·rw [if_neg h0,if_pos (by omega),if_neg (by omega),if_neg (by omega)]
    have:=(yw3 (((n:Int)-2-((n:Int)-2-4*(i:Int)))/4)).1
    omega
  rw [←h.cf] at hne
  obtain ⟨t,ht,e⟩:=yp2 hne
  rw [←e]
  exact List.mem_map.2 ⟨t,ht,rfl⟩
end Go.Proofs.YtmdjdekgakidhaaDoor
namespace Go.Proofs.YtmdjdekgakidhaaDoor
open Go Go.RowKit
set_option maxRecDepth 100000
set_option maxHeartbeats 8000000
set_option linter.unusedVariables false
set_option linter.unusedSimpArgs false
theorem y5p {m:List Int} {n:Nat} {o:List Nat} {sd:List PE} (h:SdOk m n o n sd) (he:plE m o n=[]) (ho:o.drop n=[]): ∃g:PE,sd=[g]/\g.key=pS []/\(∀e,pfE g.lo g.cs e=brT m n 0 1 e):=by
 have hk: ∀g∈sd,g.key=pS []:=fun g hg=>by
  obtain ⟨h1,h2⟩:=h.ok.ok g hg
  rw [he] at h2
  rw [h1,List.length_eq_zero_iff.1 h2.len]
 match sd,h,hk with
 |[],h,_=>have:=h.pos;simp at this
 |[g],h,hk=>
  refine ⟨g,rfl,hk g (List.mem_cons_self ..),fun e=>?_⟩
  have:=h.va e
  rw [ho] at this
  simpa [sumG,vaS,finR] using this
 |g::g'::r,h,hk=>
  have h1:=h.ok.nd
  unfold ybd at h1
  simp only [List.map_cons,List.nodup_cons,List.mem_cons,not_or] at h1
  exact absurd ((hk g (List.mem_cons_self ..)).trans (hk g' (List.mem_cons_of_mem _ (List.mem_cons_self ..))).symm) h1.1.1
theorem y5q {m:List Int} {n:Nat} (hp:PmOk m n) (hn:n<=100) {e:Int} (he:brT m n 0 1 e≠0): -1000<=e/\e<=1000:=by
 have h1:=yh4 hp he
 have h2:=yc4 hp (fun _=>true)
 have h3:=yc4 hp (fun _=>false)
 omega
theorem y62 {m:List Int} {n:Nat} (hp:PmOk m n) {o:List Nat} (hn:o.Nodup) (hl:o.length=n) (hr: ∀c∈o,c<n) (hn14:n<=14) (hn0:0<n):Swp m n o (fun k sd=>k<=n/\SdOk m n o k sd) (fun k sd sn G=>MdOk m n o k sd sn G):=by
 have h42:2^(3*n)<=2^42:=Nat.pow_le_pow_right (by omega) (by omega)
 refine ⟨⟨by omega,SdOk.init hp hn hl hr hn0⟩,fun {k sd} hk hS=>⟨hS.2.ok,?_,hS.2.pos,fun hkn g hg b=>?_,fun g hg=>?_⟩,fun {k sd} _=>MdOk.init m n o k sd,fun {k sd sn G} hk hS hM=>⟨hM.nd,hM.rg,hM.ok,hM.len,fun x hx=>?_⟩,fun {k sd sn G i g} hk hS hM hi hni=>hM.step hp hn hl hr hn14 hk hS.2 hi hni,fun {k sd sn G} hk hS hM ha=>⟨hk,hM.all hS.2 ha⟩,fun k hk=>?_⟩
 ·have h1:=hS.2.len
  have h2:2^k<=2^14:=Nat.pow_le_pow_right (by omega) (by omega)
  omega
 ·have h1:=yk6 (F:=nuS m (o.drop k) (plE m o k)) hg
  have h2:=hS.2.nu
  rw [yby (show k<o.length by omega)] at h1 h2
  have:=y6r (Nat.le_trans h1 h2) b
  omega
 ·have:=y0u hS.2.nu hg;omega
 ·have:=hM.mx hS.2 hx;omega
 ·have:=(ydc hp hn hl hr k hk).2;omega
theorem yzy (s m:List Int) (L:Int) (hp:PmOk m s.length) {o:List Nat} (hn:o.Nodup) (hl:o.length=s.length) (hr: ∀c∈o,c<s.length) (hn14:s.length<=14) (hn0:0<s.length):
  Fn Tryd.prog 14 [dgA s m L,roI (o.map (Nat.cast:Nat->Int))] (.tup [plA false (yam (brT m s.length 0 1)), .bool true]):=by
 refine yn9 s m L hp hn hl hr (by omega) hn0 (y62 hp hn hl hr hn14 hn0) fun g hS=>?_
 obtain ⟨s1,s2⟩:=ydc hp hn hl hr s.length (by omega)
 have hod:o.drop s.length=[]:=List.drop_eq_nil_of_le (by omega)
 have he0:plE m o s.length=[]:=yg4 hp s1.he fun c hc=>by
  rcases s1.al c hc with g|g
  ·exact g
  ·rw [hod] at g;simp at g
 obtain ⟨g',hg,_,hgp⟩:=y5p hS.2 he0 hod
 obtain rfl:g=g':=by simpa using hg
 exact yap.eq ⟨yfk _ _,fun e=>by rw [ywz,hgp]⟩ fun e he=>y5q hp (by omega) he
end Go.Proofs.YtmdjdekgakidhaaDoor
namespace Go.Proofs.YtmdjdekgakidhaaDoor
set_option linter.unusedVariables false
set_option linter.unusedSimpArgs false
theorem yw6 {m o:List Int} {c:Nat} (h: ∀s,s<4->m.getD (4*c+s) 0/4∈o): ∀s,s<=4->eN m o c s=s
 |0,_=>rfl
 |s+1,hs=>by simp only [eN,yw6 h s (by omega),if_pos (h s (by omega))]
theorem y3y {n:Nat} {o:List Int} (h:PrmL n o) (hl:o.length=n) {c:Nat} (hc:c<n):(c:Int)∈o:=by
 rcases Classical.em ((c:Int)∈o) with g|g
 ·exact g
 ·exfalso
  have h1:((c:Int)::o).Nodup:=List.nodup_cons.2 ⟨g,h.nd⟩
  have h2:=ymr h1 (k:=(List.range n).map (Nat.cast:Nat->Int)) fun x hx=>by
   rcases List.mem_cons.1 hx with rfl|hx
   ·exact List.mem_map.2 ⟨c,List.mem_range.2 hc,rfl⟩
   ·have:=h.rg x hx
    exact List.mem_map.2 ⟨x.toNat,List.mem_range.2 (by omega),by omega⟩
  simp at h2
  omega
theorem ys6 {m:List Int} {n:Nat} (hm:yba m n) {o:List Int} (h:PrmL n o) (hl:o.length=n): ∀r:List Int,(∀x∈r,0<=x/\x<n)->rfC m o r=0
 |[],_=>rfl
 |x::r,hr=>by
  have hx:=hr x (List.mem_cons_self ..)
  simp only [rfC,ys6 hm h hl r fun y hy=>hr y (List.mem_cons_of_mem _ hy)]
  rw [yw6 (fun s hs=>by
   have:=hm.2 (4*x.toNat+s) (by omega)
   have h2:=y3y h hl (c:=(m.getD (4*x.toNat+s) 0/4).toNat) (by omega)
   rwa [show (((m.getD (4*x.toNat+s) 0/4).toNat:Nat):Int)=m.getD (4*x.toNat+s) 0/4 by omega] at h2) 4 (Nat.le_refl _)]
  rfl
theorem y63 {m:List Int} {n:Nat} (hm:yba m n) (hi: ∀x:Nat,x<4*n->m.getD (m.getD x 0).toNat 0=x) {o:List Int} (h:PrmL n o) (hl:o.length=n): ∀k,k<=n->wdN m o k<=2*n:=by
 have h0:ctN m o n=0:=by
  have:=y0c hm hi h n (by omega)
  rw [List.take_of_length_le (by omega)] at this
  rw [this];exact ys6 hm h hl o h.rg
 have hb: ∀d k,k+d=n->ctN m o k<=4*(d:Int):=by
  intro d
  induction d with
  |zero=>intro k hk;obtain rfl:k=n:=by omega
         rw [h0];omega
  |succ d ih=>
   intro k hk
   have h1:=ih (k+1) (by omega)
   have h2:=yi9 m (o.take k) (o.getD k 0) 4
   simp only [ctN] at h1
   omega
 intro k
 induction k with
 |zero=>intro _;simp only [wdN];omega
 |succ k ih=>
  intro hk
  have h1:=ih (by omega)
  have h2:=yms m o (k+1)
  have h3:=hb (n-(k+1)) (k+1) (by omega)
  simp only [wdN]
  omega
end Go.Proofs.YtmdjdekgakidhaaDoor
namespace Go.Proofs.YtmdjdekgakidhaaDoor
set_option linter.unusedVariables false
set_option linter.unusedSimpArgs false
theorem y3z (p:List (Int×Int)) (g:Int->Int) (e:Int):cvL p (dml g) e=dml (cvL p g) e:=by
 induction p with
 |nil=>simp [cvL,dml]
 |cons t p ih=>
  simp only [cvL,ih,dml]
  rw [show e+2-t.1=e-t.1+2 by omega,show e-2-t.1=e-t.1-2 by omega,Int.mul_sub,Int.mul_neg]
  omega
theorem y30 (p:List (Int×Int)) (e:Int):cvL p (dpw 0) e=cfL p e:=by
 induction p with
 |nil=>rfl
 |cons t p ih=>
  simp only [cvL,cfL,ih,dpw]
  congr 1
  by_cases h:t.1=e
  ·rw [if_pos h,if_pos (by omega)];simp
  ·rw [if_neg h,if_neg (by omega)];simp
theorem yjy (p:List (Int×Int)): ∀(j:Nat) (e:Int),cvL p (dpw j) e=dmn j (cfL p) e
 |0,e=>y30 p e
 |j+1,e=>by
  have:dpw (j+1)=dml (dpw j):=rfl
  rw [this,y3z]
  exact ydt (yjy p j) e
theorem ys7: ∀j:Nat,dpw j (2*(j:Int))≠0
 |0=>by simp [dpw]
 |j+1=>by
  have ih:=ys7 j
  have h0:dpw j (2*(j:Int)+4)=0:=by
   by_cases h:dpw j (2*(j:Int)+4)=0
   ·exact h
   ·have:=ydi j _ h;omega
  simp only [dpw,dml]
  rw [show 2*((j+1:Nat):Int)+2=2*(j:Int)+4 by omega,show 2*((j+1:Nat):Int)-2=2*(j:Int) by omega,h0]
  omega
theorem ydv {j:Nat} (hj:j<=100) {e:Int} (h:dpw j e≠0): -1000<=e/\e<=1000:=by have:=ydi j e h;omega
theorem yfr {j:Nat} (hj:j<=20) (e:Int): -1048576<=dpw j e/\dpw j e<=1048576:=by
 have h:=yje j e
 have h2:2^j<=2^20:=Nat.pow_le_pow_right (by omega) hj
 omega
theorem yld {q:List (Int×Int)} {j:Nat} (h:yap q (dpw j)):j+1<=q.length/\ya2 q<=2*j/\ -(2*(j:Int))<=lowE q:=by
 have hne:q≠[]:=fun e=>by
  subst e
  exact ys7 j ((h.cf _).symm)
 have hr:=ym0 h.asc h.cf (ydi j)
 have hq0:0<q.length:=List.length_pos_iff.2 hne
 have a:=hr _ (yb0 (i:=0) hq0)
 have b:=hr _ (yb0 (i:=q.length-1) (by omega))
 refine ⟨yl5 j q (dpw 0) h.asc ⟨0,fun e he=>by have:=ydi 0 e he;omega⟩ (fun e=>?_) hne,?_,?_⟩
 ·rw [h.cf]
  exact (yjn j e).symm.trans (ybe (fun x=>rfl) j e)
 ·unfold ya2;omega
 ·unfold lowE;omega
theorem ys8 {m:List Int} {n:Nat} (hp:PmOk m n) (hn:0<n) (L:Nat) (e:Int):brT m n L 1 e=dmn L (brT m n 0 1) e:=by
 have key: ∀e,brT m n L (L+1) e=brT m n 0 1 e:=fun e=>by
  unfold brT hrT
  refine yc3 fun k _=>?_
  unfold cN
  have:=ykw hp (chB k) hn
  rw [if_pos (by omega),if_pos (by omega),show cirS m n (chB k)+L-(L+1)=cirS m n (chB k)+0-1 by omega]
 cases L with
 |zero=>rfl
 |succ L=>
  have h1:=ysh (m:=m) (n:=n) (L:=L+1) L (by omega) e
  rw [show L+1-L=1 by omega] at h1
  rw [h1]
  have h2: ∀e,brT m n (L+1) (L+1) e=dmn 1 (brT m n 0 1) e:=fun e=>by
   have h3:=yp3 (K:=2^n) (c:=cN m n (L+1)) (w:=wB n) (L+1) e
   have h0:hrR (2^n) (cN m n (L+1)) (wB n) (L+1) e=0:=by
    have:hrR (2^n) (cN m n (L+1)) (wB n) (L+1) e=sm (fun _=>0) (2^n):=yc3 fun k _=>by
     rw [if_neg]
     rintro ⟨h2,_⟩
     have:=ykw hp (chB k) hn
     unfold cN at h2;omega
    rw [this,yeb];omega
   rw [h0,Int.add_zero] at h3
   exact h3.trans (ydt key e)
  rw [ybe h2 L e,yk1]
theorem yqx (L:Nat) (e:Int):brT [] 0 (L+1) 1 e=dpw L e:=by
 have h0:cirS [] 0 (chB 0)=0:=rfl
 have h1:brT [] 0 (L+1) 1 e=0+if 1<=cN [] 0 (L+1) 0 then dpw (cN [] 0 (L+1) 0-1) (e-wB 0 0) else 0:=rfl
 rw [h1]
 unfold cN wB
 rw [h0,if_pos (by omega),show 0+(L+1)-1=L by omega]
 simp [cntB]
end Go.Proofs.YtmdjdekgakidhaaDoor
