/- The author's own program logic: calls, statements, functions, statements that draw their order. -/
import Derived.Test.YtjpbeacamoijhaaGreatDoorGa
import Derived.Orders
set_option linter.unusedSimpArgs false
set_option linter.unusedVariables false
namespace Go.Proofs.YtjpbeacamoijhaaGreatDoor
open Go Go.RowKit
def ρ0:Nat->Addr:=fun _=>⟨0,0,none⟩
def pI (P:Program) (f:Nat):Prop:= ∃fn,P.funcs[f]?=some fn/\fn.body.isSome=true/\(fn.name== "runtime.NumGoroutine")=false
def Dq (w:World) (Mx:Nat->Prop):Prop:=Good w/\ ∀b,Mx b->b<w.heap.size
def Fn (P:Program) (f:Nat) (args:List AV) (r:AV):Prop:=
 pI P f/\ ∀(w:World) (Mx:Nat->Prop) (vs:List Value),Dq w Mx->vs.length=args.length->(∀(i:Nat) (v:Value) (x:AV),vs[i]?=some v->args[i]?=some x->VR w Mx ρ0 (fun _=>False) v x)->
  Calls P f vs.toArray w fun e w'=> ∃v,e= .returned v/\Below w.heap.size w w'/\VR w' Mx ρ0 (fun _=>False) v r
def yni:AV->Bool
 | .int .. | .bool _| .str _| .nils=>true
 |_=>false
def flat:AV->Bool
 | .agg xs=>xs.all yni
 | .tup xs=>xs.all yni
 |x=>yni x
def FnN (P:Program) (f:Nat) (args:List AV) (r:AV):Prop:=
 pI P f/\ ∀(w:World) (Mx:Nat->Prop) (vs:List Value),Dq w Mx->vs.length=args.length->(∀(i:Nat) (v:Value) (x:AV),vs[i]?=some v->args[i]?=some x->VR w Mx ρ0 (fun _=>False) v x)->
  Calls P f vs.toArray w fun e w'=> ∃v,e= .returned v/\Below w.heap.size w w'/\VR w' (fun b=>b<w.heap.size) ρ0 (fun _=>False) v r
def bS (P:Program) (f:Nat) (xs:List AV) (H:Hp) (K:AV->Prop):Prop:=
 if xs.all p3 then∃r,Fn P f xs r/\K r else (∀x∈xs,eT H 6 x)/\ ∃r,((Fn P f (xs.map (snap H 6)) r/\flat r=true)\/FnN P f (xs.map (snap H 6)) r)/\K r
def qj (P:Program) (N:Nat) (c:Code) (fr:Fr) (H:Hp) (Q:Exit->Fr->Hp->Prop):Prop:=
 ∀(B:Nat) (w0:nN) (Mx:Nat->Prop) (w:World) (ρ:Nat->Addr) (a:Act),aK B w0 Mx N w ρ fr H a->
  c.wp P (fun e a' w'=> ∃ρ' fr' H',Q e fr' H'/\aK B w0 Mx N w' ρ' fr' H' a') a w
def resL (P:Program) (fr:Fr) (H:Hp):List ResultVar->Option (Prop×List AV)
 |[]=>some (True,[])
 | .tmp t::r=>match resL P fr H r with
   |some (p,l)=>some (p,evA fr (.tmp t)::l)
   |none=>none
 | .cell d t::r=>match ym8 P (hget H) t (evA fr (.tmp d)),resL P fr H r with
   |some (q,x),some (p,l)=>some (q/\p,x::l)
   |_,_=>none
def yf7:List AV->AV
 |[x]=>x
 |l=> .tup l
def frOf (k:Nat):List AV->Fr
 |[]=>[]
 |x::r=>(k,x)::frOf (k+1) r
def retI (P:Program) (rs:List ResultVar) (K:AV->Fr->Hp->Prop) (e:Exit) (fr:Fr) (H:Hp):Prop:=
 (e= .ret\/e= .normal)/\match resL P fr H rs with
 |some (p,l)=>p/\K (yf7 l) (unl fr) H
 |none=>False
def IB (P:Program) (f:Nat) (xs:List AV) (fr:Fr) (H:Hp) (K:AV->Fr->Hp->Prop):Prop:=
 ∀(B:Nat) (w0:nN) (Mx:Nat->Prop) (N:Nat) (w:World) (ρ:Nat->Addr) (a:Act),aK B w0 Mx N w ρ fr H a-> ∀vs:List Value,vs.length=xs.length->
  (∀(i:Nat) (v:Value) (x:AV),vs[i]?=some v->xs[i]?=some x->VR w (MM Mx H ρ) ρ (DD H) v x)->
  pI P f/\Calls P f vs.toArray w fun e w'=> ∃v r ρ' fr' H',e= .returned v/\K r fr' H'/\aK B w0 Mx N w' ρ' fr' H' a/\VR w' (MM Mx H' ρ') ρ' (DD H') v r
structure pS (P:Program) (f:Nat) (xs:List AV) (fr:Fr) (H:Hp) (K:AV->Fr->Hp->Prop):Prop where
 out:(∃fn c,P.funcs[f]?=some fn/\fn.body=some c/\(fn.name== "runtime.NumGoroutine")=false/\(xs.length<=fn.ntmps/\fn.ntmps<=1000000)/\qj P fn.ntmps c (frOf 0 xs++lft fr) H (retI P fn.results.toList K))\/IB P f xs fr H K
theorem pS.intro {P:Program} {f:Nat} {xs:List AV} {fr:Fr} {H:Hp} {K:AV->Fr->Hp->Prop} {fn:Func} {c:Code} (rs:List ResultVar) (hf:P.funcs[f]?=some fn) (hb:fn.body=some c) (CQ:fn.results.toList=rs) (hn:(fn.name== "runtime.NumGoroutine")=false) (hl:xs.length<=fn.ntmps/\fn.ntmps<=1000000)
  (h:qj P fn.ntmps c (frOf 0 xs++lft fr) H (retI P rs K)):pS P f xs fr H K:=⟨.inl ⟨fn,c,hf,hb,hn,hl,by rw [CQ];exact h⟩⟩
def uX (P:Program) (f:Nat) (args:List AV) (r:AV) (H0:Hp):Prop:=
 pI P f/\ ∀(w:World) (Mx:Nat->Prop) (vs:List Value),Dq w Mx->vs.length=args.length->(∀(i:Nat) (v:Value) (x:AV),vs[i]?=some v->args[i]?=some x->VR w Mx ρ0 (fun _=>False) v x)->
  Calls P f vs.toArray w fun e w'=> ∃v ρ',e= .returned v/\aK w.heap.size ⟨w,fun _=>undef⟩ Mx 0 w' ρ' [] H0 {tmps:= #[],defers:=[]}/\VR w' (MM Mx H0 ρ') ρ' (DD H0) v r
def Lp (P:Program) (f:Nat) (xs:List AV) (H:Hp) (aQ:Nat) (K:AV->AObj->Prop):Prop:=
 ∃es n t l,((xs.all p3=true/\uX P f xs (.sl es 0 0 n) [(0, .cells t (.ints l))])\/((∀x∈xs,eT H 6 x)/\uX P f (xs.map (snap H 6)) (.sl es 0 0 n) [(0, .cells t (.ints l))]))/\K (.sl es aQ 0 n) (.cells t (.ints l))
def EO (P:Program) (f:Nat) (xs:List AV) (H:Hp) (aQ:Nat) (K:AV->Prop) (K2:AV->AObj->Prop):Prop:=bS P f xs H K\/Lp P f xs H aQ K2
def Lo (P:Program) (f:Nat) (xs:List AV) (fr:Fr) (H:Hp) (K:AV->Fr->Hp->Prop):Prop:=
 (∃r,Fn P f xs r/\K r fr H)\/(∃r H0,uX P f xs r H0/\K (renV (hnew H) 4 r) fr (renH (hnew H) H0++H))\/pS P f xs fr H K
def aL (P:Program) (f:Nat) (xs:List AV) (fr:Fr) (H:Hp) (K:AV->Fr->Hp->Prop):Prop:=
 if xs.all p3 then Lo P f xs fr H K else
  ((∀x∈xs,eT H 6 x)/\ ∃r,Fn P f (xs.map (snap H 6)) r/\flat r=true/\K r fr H)\/
  (∃ids,ykx (hsel H ids) fr/\yky (hsel H ids) H/\(∀x∈xs,cC (hsel H ids) 4 x)/\(xs.map (cy (hsel H ids) 4)).all p3=true/\Lo P f (xs.map (cy (hsel H ids) 4)) (frzF (hsel H ids) fr) (jH (hsel H ids) H) K)\/
  pS P f xs fr H K
def sY (c b:Bool) (A B:Prop):Prop:=(c=b->A)/\(c= !b->B)
theorem yy3 {c c' b:Bool} {A B:Prop} (h:c=c'):sY c b A B=sY c' b A B:=by rw [h]
theorem y9x {A B:Prop}:sY true true A B=A:=by simp [sY]
theorem y9y {A B:Prop}:sY true false A B=B:=by simp [sY]
theorem y9z {A B:Prop}:sY false true A B=B:=by simp [sY]
theorem y90 {A B:Prop}:sY false false A B=A:=by simp [sY]
theorem yue {P:Program} {f:Nat} {xs FG:List AV} {fr fr':Fr} {H H':Hp} {K:AV->Fr->Hp->Prop} (h1:xs=FG) (h2:fr=fr') (h3:H=H'):aL P f xs fr H K=aL P f FG fr' H' K:=by rw [h1,h2,h3]
theorem yuf {P:Program} {f:Nat} {xs FG:List AV} {H H':Hp} {K:AV->Prop} (h1:xs=FG) (h3:H=H'):bS P f xs H K=bS P f FG H' K:=by rw [h1,h3]
section
variable {P:Program} {f:Nat} {xs:List AV} {fr:Fr} {H:Hp} {K:AV->Fr->Hp->Prop}
theorem aL.fn {r:AV} (hp:xs.all p3=true) (h:Fn P f xs r) (k:K r fr H):aL P f xs fr H K:=by unfold aL;rw [zzJ hp];exact .inl ⟨r,h,k⟩
theorem aL.QT {r:AV} {H0:Hp} (hp:xs.all p3=true) (h:uX P f xs r H0) (k:K (renV (hnew H) 4 r) fr (renH (hnew H) H0++H)):aL P f xs fr H K:=by unfold aL;rw [zzJ hp];exact .inr (.inl ⟨r,H0,h,k⟩)
theorem aL.inline (h:pS P f xs fr H K):aL P f xs fr H K:=by
 unfold aL
 split
 ·exact .inr (.inr h)
 ·exact .inr (.inr h)
theorem aL.La {ys:List AV} {fr':Fr} {H':Hp} (ids:List Nat) (hp:xs.all p3=false) (h1:ykx (hsel H ids) fr) (h2:yky (hsel H ids) H) (h3: ∀x∈xs,cC (hsel H ids) 4 x) (hy:xs.map (cy (hsel H ids) 4)=ys) (h4:ys.all p3=true)
  (pP:frzF (hsel H ids) fr=fr') (hH:jH (hsel H ids) H=H') (k:aL P f ys fr' H' K):aL P f xs fr H K:=by
 unfold aL;rw [zzI (by simp [hp])];subst hy;subst pP;subst hH;unfold aL at k;rw [zzJ h4] at k;exact .inr (.inl ⟨ids,h1,h2,h3,h4,k⟩)
theorem bS.fn {K:AV->Prop} {aQ:Nat} {K2:AV->AObj->Prop} {r:AV} (hp:xs.all p3=true) (h:Fn P f xs r) (k:K r):EO P f xs H aQ K K2:=by left;unfold bS;rw [zzJ hp];exact ⟨r,h,k⟩
theorem bS.flat {K:AV->Prop} {aQ:Nat} {K2:AV->AObj->Prop} {r:AV} {ys:List AV} (hp:xs.all p3=false) (hs: ∀x∈xs,eT H 6 x) (hy:xs.map (snap H 6)=ys) (h:Fn P f ys r) (hf:Go.Proofs.YtjpbeacamoijhaaGreatDoor.flat r=true) (k:K r):EO P f xs H aQ K K2:=by
 left;unfold bS;rw [zzI (by simp [hp])];subst hy;exact ⟨hs,r, .inl ⟨h,hf⟩,k⟩
theorem bS.own {K:AV->Prop} {aQ:Nat} {K2:AV->AObj->Prop} {ys:List AV} {es n t:Nat} {l:List Int} (hs: ∀x∈xs,eT H 6 x) (hy:xs.map (snap H 6)=ys) (h:uX P f ys (.sl es 0 0 n) [(0, .cells t (.ints l))]) (k:K2 (.sl es aQ 0 n) (.cells t (.ints l))):EO P f xs H aQ K K2:=by
 subst hy;exact .inr ⟨es,n,t,l, .inr ⟨hs,h⟩,k⟩
end
def cvOk (P:Program):Op->Bool
 | .convert s _ _=>match tk P s with| .bad=>false|_=>true
 |_=>true
def uU (P:Program) (N:Nat) (o:Oper) (K:Fr->Hp->Prop) (fr:Fr) (H:Hp):Prop:=
 ∀(B:Nat) (w0:nN) (Mx:Nat->Prop) (w:World) (ρ:Nat->Addr) (a:Act),aK B w0 Mx N w ρ fr H a-> ∀Q:Exit->Act->World->Prop,o.wp P a w (fun a' w'=> ∃ρ' fr' H',K fr' H'/\aK B w0 Mx N w' ρ' fr' H' a') Q
def FZ:Op->Bool
 | .next .. | .range .. | .entry .. | .insert .. | .makeMap .. | .load .. | .index .. | .indexAddr .. | .build .. | .convert .. =>true
 | .call {callee:= .builtin .copy, .. }| .call {callee:= .builtin .clear, .. }| .call {callee:= .builtin .len, .. }=>true
 |_=>false
def awX (P:Program) (N:Nat) (o:Oper) (fr:Fr) (H:Hp) (K:Fr->Hp->Prop):Prop:=
 match o.op with
 | .store t x y=>match stF P H t (evA fr x) (evA fr y) with
   |some (p,id,ob)=>p/\dok o.dst N=true/\K (fput fr o.dst .any) (hset H id ob)
   |none=>False
 | .mapUpdate t m k x=>match muF P H t (evA fr m) (evA fr k) (evA fr x) with
   |some (id,ob)=>dok o.dst N=true/\K (fput fr o.dst .any) (hset H id ob)
   |none=>False
 | .call c=>match c.callee with
   | .builtin .append=>match c.args.toList,c.argTypes.toList with
     |[s,x],[t,t']=>t=t'/\match apF P fr H t (evA fr s) (evA fr x) with
      |some (p,r,fr',H')=>p/\dok o.dst N=true/\K (fput fr' o.dst r) H'
      |none=>False
     |_,_=>False
   | .value f=>match evA fr f with
     | .fn g cap=>dok o.dst N=true/\aL P g (c.args.toList.map (evA fr)++cap) fr H fun r fr' H'=>K (fput fr' o.dst r) H'
     |_=>False
   |_=>FZ o.op=true/\uU P N o K fr H
 |_=>FZ o.op=true/\uU P N o K fr H
def awO (P:Program) (N:Nat) (o:Oper) (fr:Fr) (H:Hp) (K:Fr->Hp->Prop):Prop:=
 cvOk P o.op=true/\match quF P H (evA fr) o.op with
 |some (p,r)=>p/\dok o.dst N=true/\K (fput fr o.dst r) H
 |none=>match alF P (hnew H) (evA fr) o.op with
  |some (p,r,ob)=>p/\dok o.dst N=true/\K (fput fr o.dst r) ((hnew H,ob)::H)
  |none=>awX P N o fr H K
def gval (ops:Array Oper) (fr:Fr) (j:Nat):AV:=match (ops[j]?).bind (·.dst) with
 |some d=>if d<1000000 then fget fr d else .any
 |none=> .any
def gput (ops:Array Oper) (fr:Fr) (j:Nat) (b:Bool):Fr:=match (ops[j]?).bind (·.dst) with
 |some d=>(d, .bool b)::fr
 |none=>fr
def awL (P:Program) (N:Nat) (ops:Array Oper):List Oper->Fr->Hp->(Fr->Hp->Prop)->Prop
 |[],fr,H,K=>K fr H
 |o::r,fr,H,K=>match o.guard with
  |none=>awO P N o fr H fun fr' H'=>awL P N ops r fr' H' K
  |some (j,b)=>match gval ops fr j with
   | .bool c=>sY c b (awO P N o (gput ops fr j b) H fun fr' H'=>awL P N ops r fr' H' K) (dok o.dst N=true/\awL P N ops r (fput (gput ops fr j (!b)) o.dst (.tup [])) H K)
   | .tup []=>dok o.dst N=true/\awL P N ops r (fput fr o.dst (.tup [])) H K
   |_=>False
section
variable {P:Program} {B:Nat} {w0:nN} {Mx:Nat->Prop} {N:Nat} {w:World} {ρ:Nat->Addr} {fr:Fr} {H:Hp} {a:Act}
theorem aK.later (h:aK B w0 Mx N w ρ fr H a) {w':World} (hb:Below w.heap.size w w'):aK B w0 Mx N w' ρ fr H a:=by
 have hc: ∀{D:Nat->Prop} {v:Value} {x:AV},VR w (MM Mx H ρ) ρ D v x->VR w' (MM Mx H ρ) ρ D v x:=fun hv=>
  hv.carry hb.size (fun b aD hm=>⟨hb.block b aD,hm⟩) (fun id hd=>⟨hd,rfl,fun arr t ha=>⟨arr,(hb.block _ (iW ha)).trans ha,rfl⟩⟩)
 refine ⟨h.below.trans (hb.mono h.hB),Nat.le_trans h.hB hb.size,fun b hm=>Nat.lt_of_lt_of_le (h.mx b hm) hb.size,h.own,fun id o ho=>?_,h.inj,fun t=>hc (h.frv t),h.defers,h.size⟩;have hr:=h.objs id o ho;cases o with
 |gone=>trivial
 |cells t c=>
  obtain ⟨k1,arr,k2,k3,k4⟩:=hr;exact ⟨k1,arr,(hb.block _ (iW k2)).trans k2,k3,fun j hj=>let ⟨u,hu,hv⟩:=k4 j hj;⟨u,hu,hc hv⟩⟩
 |gmap t ck l=>
  obtain ⟨es,k1,k2,k3⟩:=hr;exact ⟨es,(hb.block _ (iW k1)).trans k1,k2,fun j e q he hl=>let ⟨g1,g2,g3⟩:=k3 j e q he hl;⟨g1,g2,hc g3⟩⟩
 |iter mid s sn la=>
  obtain ⟨k1,k2,k3⟩:=hr;exact ⟨k1,k2,(hb.block _ (iW k3)).trans k3⟩
 |imap t l=>
  obtain ⟨k0,es,ck,k1,k2,k3⟩:=hr;exact ⟨k0,es,ck,(hb.block _ (iW k1)).trans k1,k2,fun j e k x he hl=>let ⟨g1,g2,g3⟩:=k3 j e k x he hl;⟨g1,hc g2,g3⟩⟩
 |fmap t c=>
  obtain ⟨k0,es,ck,k1,k2⟩:=hr;exact ⟨k0,es,ck,(hb.block _ (iW k1)).trans k1,k2⟩
theorem aK.tK (h:aK B w0 Mx N w ρ fr H a):Good w:=h.defers.2 w h.below
theorem aK.oR (h:aK B w0 Mx N w ρ fr H a) (b:Nat) (hm:MM Mx H ρ b):b<w.heap.size:=by
 rcases hm with h1|⟨id,o,h1,h2,h3⟩
 ·exact h.mx b h1
 ·rw [<-h3];exact (h.objs id o h1).lt h2
theorem y6p {v:Value} {x:AV} {M M':Nat->Prop} {ρ':Nat->Addr} {D':Nat->Prop} (hv:VR w M ρ0 (fun _=>False) v x) (hf:flat x=true):VR w M' ρ' D' v x:=by
 have h1: ∀{v:Value} {x:AV},VR w M ρ0 (fun _=>False) v x->yni x=true->VR w M' ρ' D' v x:=fun hv hf=>by
  cases hv<;>first|(cases hf;done)|constructor
 cases x with
 |agg xs=>
  obtain ⟨vs,rfl,hl,hx⟩:=hv.bI;exact .agg vs xs hl fun i v x g1 g2=>h1 (hx i v x g1 g2) (List.all_eq_true.1 hf _ (zzN g2))
 |tup xs=>
  obtain ⟨vs,rfl,hl,hx⟩:=hv.ja;exact .tup vs xs hl fun i v x g1 g2=>h1 (hx i v x g1 g2) (List.all_eq_true.1 hf _ (zzN g2))
 |_=>exact h1 hv hf
theorem Vr (h:aK B w0 Mx N w ρ fr H a) {f:Nat} {xs:List AV} {K:AV->Prop} (hc:bS P f xs H K) {vs:List Value} (hl:vs.length=xs.length)
  (hv: ∀(i:Nat) (v:Value) (x:AV),vs[i]?=some v->xs[i]?=some x->VR w (MM Mx H ρ) ρ (DD H) v x):
  pI P f/\Calls P f vs.toArray w fun e w'=> ∃v r,e= .returned v/\K r/\aK B w0 Mx N w' ρ fr H a/\VR w' (MM Mx H ρ) ρ (DD H) v r/\Below w.heap.size w w':=by
 unfold bS at hc
 split at hc
 ·rename_i hp
  obtain ⟨r,⟨iL,hfn⟩,hk⟩:=hc;refine ⟨iL,(hfn w (MM Mx H ρ) vs ⟨h.tK,h.oR⟩ hl fun i v x h1 h2=>(hv i v x h1 h2).qu (List.all_eq_true.1 hp _ (zzN h2))).mono ?_⟩;rintro e w' ⟨v,rfl,hb,hr⟩;exact ⟨v,r,rfl,hk,h.later hb,hr.D0,hb⟩
 ·obtain ⟨hs,r,sW,hk⟩:=hc;have we: ∀(i:Nat) (v:Value) (x:AV),vs[i]?=some v->(xs.map (snap H 6))[i]?=some x->VR w (fun _=>False) ρ0 (fun _=>False) v x:=fun i v x h1 h2=>by
   simp only [zzO] at h2;obtain ⟨x',g1,rfl⟩:=Option.map_eq_some_iff.1 h2;exact JB h (fun _ h=>h.elim) 6 v x' (hv i v x' h1 g1) (hs _ (zzN g1))
  rcases sW with ⟨⟨iL,hfn⟩,hf⟩|⟨iL,hfn⟩
  ·refine ⟨iL,(hfn w (fun _=>False) vs ⟨h.tK,fun _ h=>h.elim⟩ (by simpa using hl) we).mono ?_⟩;rintro e w' ⟨v,rfl,hb,hr⟩;exact ⟨v,r,rfl,hk,h.later hb,y6p hr hf,hb⟩
  ·refine ⟨iL,(hfn w (fun _=>False) vs ⟨h.tK,fun _ h=>h.elim⟩ (by simpa using hl) we).mono ?_⟩;rintro e w' ⟨v,rfl,hb,hr⟩;exact ⟨v,r,rfl,hk,h.later hb,(hr.carry (ρ':=ρ0) (D':=fun _=>False) (zzA _) (fun b _ hm=>⟨rfl,fun hM=>hm (h.oR b hM)⟩) (fun k hd=>hd.elim)).D0,hb⟩
theorem NN {f:Nat} (h:pI P f) (args:Array Value):(callFunc f args).run P w= .ok (.enter f args) w:=by
 obtain ⟨fn,h1,h2,h3⟩:=h;have h4: ¬fn.body=none:=by intro hb;rw [hb] at h2;cases h2
 have h5: ¬fn.name= "runtime.NumGoroutine" :=by simpa using h3
 simp [callFunc,program,Sem.run,h1,h4,h5]
def E8 (tmps:Array Value):ResultVar->Sem Value
 | .tmp t=>pure (tmps.getD t undef)
 | .cell d t=>do loadVar t (<-asAddr (tmps.getD d undef))
theorem Va (fn:Func) (tmps:Array Value):results fn tmps=(do let vs<-fn.results.mapM (E8 tmps);pure (if h:vs.size=1 then vs[0] else .tuple vs)):=by
 unfold results;congr 2
theorem NH (h:aK B w0 Mx N w ρ fr H a): ∀(rs:List ResultVar) (p:Prop) (l:List AV),resL P fr H rs=some (p,l)->p-> ∃vs:List Value,(rs.mapM (E8 a.tmps)).run P w= .ok vs w/\vs.length=l.length/\
  ∀(i:Nat) (v:Value) (x:AV),vs[i]?=some v->l[i]?=some x->VR w (MM Mx H ρ) ρ (DD H) v x
 |[],p,l,hr,_=>by simp only [resL] at hr;cases hr;exact ⟨[],by simp,rfl,by simp⟩
 | .tmp t::rs,p,l,hr,hp=>by
   simp only [resL] at hr
   split at hr
   ·rename_i p' l' h'
    cases hr;obtain ⟨vs,h1,h2,h3⟩:=NH h rs _ _ h' hp;refine ⟨a.tmps.getD t undef::vs,?_,by simp [h2],fun i v x hv hx=>?_⟩
    ·simp only [List.mapM_cons,E8];simp only [Sem.run_bind,Sem.run_pure,Result.andThen_ok,h1]
    ·cases i with
     |zero=>simp only [List.getElem?_cons_zero,Option.some.injEq] at hv hx;subst hv hx;exact h.ev (.tmp t)
     |succ i=>exact h3 i v x (by simpa using hv) (by simpa using hx)
   ·cases hr
 | .cell d t::rs,p,l,hr,hp=>by
   simp only [resL] at hr
   split at hr
   ·rename_i q x p' l' hq h'
    cases hr;obtain ⟨vs,h1,h2,h3⟩:=NH h rs _ _ h' hp.2;obtain ⟨z,hz,wa⟩:=Vj (P:=P) h.objs (h.ev (.tmp d)) hq hp.1;have GQ: ∀u:Value,∀z:Value,(Instr.loadAt t u).run P w= .ok z w->(do loadVar t (<-asAddr u):Sem Value).run P w= .ok z w:=by
     intro u z hz;cases u with
     |pointer o=>
      cases o with
      |some ad=>simpa [Instr.loadAt,Instr.sureAddr,asAddr] using hz
      |none=>simp [Instr.loadAt,Instr.sureAddr,stuck,Sem.run] at hz
     |_=>simp [Instr.loadAt,Instr.sureAddr,stuck,Sem.run] at hz
    refine ⟨z::vs,?_,by simp [h2],fun i v x hv hx=>?_⟩
    ·have wb:=GQ (a.tmps.getD d undef) z hz;simp only [Sem.run_bind] at wb;simp only [List.mapM_cons,E8];simp only [Sem.run_bind,Sem.run_pure,wb,Result.andThen_ok,h1]
    ·cases i with
     |zero=>simp only [List.getElem?_cons_zero,Option.some.injEq] at hv hx;subst hv hx;exact wa
     |succ i=>exact h3 i v x (by simpa using hv) (by simpa using hx)
   ·cases hr
theorem US: ∀(xs:List AV) (k t:Nat),fget (frOf k xs) t=if k<=t then xs.getD (t-k) .any else .any
 |[],k,t=>by simp [frOf,fget]
 |x::xs,k,t=>by
  simp only [frOf,fget];by_cases h:k=t
  ·subst h;simp
  ·rw [zzI h,US xs (k+1) t];by_cases h2:k<=t
   ·rw [zzJ (by omega),zzJ h2]
    have:t-k=(t-(k+1))+1:=by omega
    rw [this];simp
   ·rw [zzI (by omega),zzI h2]
theorem U9 (h:aK B w0 Mx N w ρ fr H a) {fn:Func} {p:Prop} {l:List AV} (hr:resL P fr H fn.results.toList=some (p,l)) (hp:p): ∃v,(results fn a.tmps).run P w= .ok v w/\VR w (MM Mx H ρ) ρ (DD H) v (yf7 l):=by
 obtain ⟨FO,h1,h2,h3⟩:=NH (P:=P) h fn.results.toList p l hr hp;have hm:(fn.results.mapM (E8 a.tmps)).run P w= .ok FO.toArray w:=by
  rw [Array.mapM_eq_mapM_toList];show Sem.run P (Functor.map List.toArray _) w=_;simp only [Sem.run_map,h1,Result.andThen_ok]
 by_cases hv1:FO.length=1
 ·match FO,hv1 with
  |[v],_=>
   match l,h2 with
   |[x],_=>
    refine ⟨v,?_,h3 0 v x rfl rfl⟩;rw [Va,Sem.run_bind,hm];simp
 ·have ng:yf7 l= .tup l:=by
   match l,h2 with
   |[],_=>rfl
   |[x],h2=>exact absurd h2 hv1
   |_::_::_,_=>rfl
  rw [ng];refine ⟨.tuple FO.toArray,?_, .tup FO l h2 h3⟩;rw [Va,Sem.run_bind,hm];simp [hv1]
theorem Ko (h:aK B w0 Mx N w ρ fr H a) {f:Nat} {xs:List AV} {K:AV->Fr->Hp->Prop} (hc:pS P f xs fr H K) {vs:List Value} (hl:vs.length=xs.length)
  (hv: ∀(i:Nat) (v:Value) (x:AV),vs[i]?=some v->xs[i]?=some x->VR w (MM Mx H ρ) ρ (DD H) v x):
  pI P f/\Calls P f vs.toArray w fun e w'=> ∃v r ρ' fr' H',e= .returned v/\K r fr' H'/\aK B w0 Mx N w' ρ' fr' H' a/\VR w' (MM Mx H' ρ') ρ' (DD H') v r:=by
 rcases hc.out.symm with hS|⟨fn,c,hf,hb,hn,hlen,hw⟩
 ·exact hS _ _ _ _ _ _ _ h vs hl hv
 refine ⟨⟨fn,hf,by rw [hb];rfl,hn⟩,calls_of_wp hf hb ?_⟩;obtain ⟨g1,BA⟩: ∃g1:Nat->Value,∀n,g1 n=gv w0 a (n-1000000):=⟨_,fun _=>rfl⟩;let w1:nN:=⟨w0.w,g1⟩
 have C5: ∀(a:Act) (n:Nat),¬n<1000000->gv w1 a n=g1 n:=fun a n hn=>by unfold gv;rw [zzI hn]
 let a1:Act:={tmps:=vs.toArray++Array.replicate (fn.ntmps-vs.toArray.size) undef,defers:=[]}
 have tr:aK B w1 Mx fn.ntmps w ρ (frOf 0 xs++lft fr) H a1:=by
  refine ⟨h.below,h.hB,h.mx,h.own,h.objs,h.inj,fun t=>?_,⟨rfl,h.defers.2⟩,by simp [a1];omega,hlen.2⟩;by_cases ht:t<1000000
  ·have Ao:gv w1 a1 t=(vs.toArray++Array.replicate (fn.ntmps-vs.toArray.size) undef).getD t undef:=by unfold gv;rw [zzJ ht]
   rw [Ao];by_cases hx:t<xs.length
   ·have CH:t<vs.length:=by omega
    have e1:(vs.toArray++Array.replicate (fn.ntmps-vs.toArray.size) undef).getD t undef=vs[t]:=by
     rw [Array.getD_eq_getD_getElem?,Array.getElem?_append_left (by simpa using CH)];simp [CH]
    have e2:fget (frOf 0 xs++lft fr) t=xs[t]:=by
     have gen: ∀(xs:List AV) (k t:Nat) (F:Fr) (hx:k<=t/\t-k<xs.length),fget (frOf k xs++F) t=xs[t-k]'hx.2:=by
      intro xs
      induction xs with
      |nil=>intro k t F hx;simp at hx
      |cons x xs ih=>
       intro k t F hx;simp only [frOf,List.cons_append,fget];by_cases e:k=t
       ·subst e;simp
       ·rw [zzI e,ih (k+1) t F ⟨by omega,by simp at hx;omega⟩];simp [show t-k=(t-(k+1))+1 by omega]
     simpa using gen xs 0 t (lft fr) ⟨Nat.zero_le _,by simpa using hx⟩
    rw [e1,e2];exact hv t vs[t] xs[t] (zzH CH) (zzH hx)
   ·have e2:fget (frOf 0 xs++lft fr) t= .any:=by
     rw [NL _ _ _ (fun s x GP e=>?_),Fz,zzI (by omega)];have gen: ∀(xs:List AV) (k s:Nat) (x:AV),(s,x)∈frOf k xs->s<k+xs.length:=by
      intro xs
      induction xs with
      |nil=>intro k s x hx;simp [frOf] at hx
      |cons y ys ih=>
       intro k s x hx;simp only [frOf,List.mem_cons] at hx;rcases hx with hx|hx
       ·cases hx;simp
       ·have:=ih (k+1) s x hx;simp;omega
     have:=gen xs 0 s x GP
     omega
    rw [e2];exact .any _
  ·have Ao:gv w1 a1 t=gv w0 a (t-1000000):=by rw [C5 _ _ ht,BA]
   have e2:fget (frOf 0 xs++lft fr) t=fget fr (t-1000000):=by
    rw [NL _ _ _ (fun s x GP e=>?_),Fz,zzJ (by omega)];have gen: ∀(xs:List AV) (k s:Nat) (x:AV),(s,x)∈frOf k xs->s<k+xs.length:=by
     intro xs
     induction xs with
     |nil=>intro k s x hx;simp [frOf] at hx
     |cons y ys ih=>
      intro k s x hx;simp only [frOf,List.mem_cons] at hx;rcases hx with hx|hx
      ·cases hx;simp
      ·have:=ih (k+1) s x hx;simp;omega
    have:=gen xs 0 s x GP
    omega
   rw [Ao,e2];exact h.frv _
 refine wp_mono (hw B w1 Mx w ρ a1 tr) ?_;rintro e a' w' ⟨ρ',fr',H',⟨he,hr⟩,hs⟩
 split at hr
 ·rename_i p l vy
  obtain ⟨hp,hk⟩:=hr;obtain ⟨v,bd,CI⟩:=U9 (P:=P) hs vy hp;have GU:aK B w0 Mx N w' ρ' (unl fr') H' a:=by
   refine ⟨hs.below,hs.hB,hs.mx,hs.own,hs.objs,hs.inj,fun t=>?_,h.defers,h.size⟩
   have:=hs.frv (t+1000000)
   have Ao:gv w1 a' (t+1000000)=gv w0 a t:=by
    rw [C5 _ _ (by omega),BA,Nat.add_sub_cancel]
   rw [Ao] at this;rw [M7];exact this
  have sb:bodyPost P fn (fun e w'=> ∃v r ρ' fr' H',e= .returned v/\K r fr' H'/\aK B w0 Mx N w' ρ' fr' H' a/\VR w' (MM Mx H' ρ') ρ' (DD H') v r) .ret a' w':=⟨hs.defers.1,v,bd,v,_,ρ',_,H',rfl,hk,GU,CI⟩;rcases he with rfl|rfl
  ·exact sb
  ·exact sb
 ·exact hr.elim
theorem Vq (h:aK B w0 Mx N w ρ fr H a) {f:Nat} {xs:List AV} {K:AV->Fr->Hp->Prop} (hp:xs.all p3=true) (hc:Lo P f xs fr H K) {vs:List Value} (hl:vs.length=xs.length)
  (hv: ∀(i:Nat) (v:Value) (x:AV),vs[i]?=some v->xs[i]?=some x->VR w (MM Mx H ρ) ρ (DD H) v x):
  pI P f/\Calls P f vs.toArray w fun e w'=> ∃v r ρ' fr' H',e= .returned v/\K r fr' H'/\aK B w0 Mx N w' ρ' fr' H' a/\VR w' (MM Mx H' ρ') ρ' (DD H') v r:=by
 rcases hc with ⟨r,⟨iL,hfn⟩,hk⟩|⟨r,H0,⟨iL,hfn⟩,hk⟩|hc
 ·refine ⟨iL,(hfn w (MM Mx H ρ) vs ⟨h.tK,h.oR⟩ hl fun i v x h1 h2=>(hv i v x h1 h2).qu (List.all_eq_true.1 hp _ (zzN h2))).mono ?_⟩;rintro e w' ⟨v,rfl,hb,hr⟩;exact ⟨v,r,ρ,fr,H,rfl,hk,h.later hb,hr.D0⟩
 ·refine ⟨iL,(hfn w (MM Mx H ρ) vs ⟨h.tK,h.oR⟩ hl fun i v x h1 h2=>(hv i v x h1 h2).qu (List.all_eq_true.1 hp _ (zzN h2))).mono ?_⟩;rintro e w' ⟨v,ρ',rfl,hs,hr⟩;obtain ⟨_,j2,j3⟩:=h.join (fun i hi=>Ee hi) rfl hs;exact ⟨v,_,_,_,_,rfl,hk,j2,j3 v r hr⟩
 ·exact Ko h hc hl hv
theorem yug (h:aK B w0 Mx N w ρ fr H a) {f:Nat} {xs:List AV} {K:AV->Fr->Hp->Prop} (hc:aL P f xs fr H K) {vs:List Value} (hl:vs.length=xs.length)
  (hv: ∀(i:Nat) (v:Value) (x:AV),vs[i]?=some v->xs[i]?=some x->VR w (MM Mx H ρ) ρ (DD H) v x):
  pI P f/\Calls P f vs.toArray w fun e w'=> ∃v r ρ' fr' H',e= .returned v/\K r fr' H'/\aK B w0 Mx N w' ρ' fr' H' a/\VR w' (MM Mx H' ρ') ρ' (DD H') v r:=by
 unfold aL at hc
 split at hc
 ·rename_i hp;exact Vq h hp hc hl hv
 ·rename_i hp
  rcases hc with ⟨hs,r,hfn,hf,hk⟩|⟨ids,h1,h2,h3,h4,hq⟩|hc
  ·obtain ⟨iL,fy⟩:=Vr (P:=P) (K:=fun r=>K r fr H) h (by unfold bS;rw [zzI hp];exact ⟨hs,r, .inl ⟨hfn,hf⟩,hk⟩) hl hv;exact ⟨iL,fy.mono fun e w' ⟨v,r,e1,e2,e3,e4,_⟩=>⟨v,r,ρ,fr,H,e1,e2,e3,e4⟩⟩
  ·have hz:=h.freeze (HF:=hsel H ids) (fun i o=>JY i o) h1 h2;refine Vq hz h4 hq (by simpa using hl) fun i v x g1 g2=>?_;simp only [zzO] at g2;obtain ⟨x',k1,rfl⟩:=Option.map_eq_some_iff.1 g2;exact RG h (fun i o=>JY i o) 4 v x' (hv i v x' g1 k1) (h3 _ (zzN k1))
  ·exact Ko h hc hl hv
theorem Fx {o:Oper} {K:Fr->Hp->Prop} (h:aK B w0 Mx N w ρ fr H a) (hk:awO P N o fr H K) (Q:Exit->Act->World->Prop):
  o.wp P a w (fun a' w'=> ∃ρ' fr' H',K fr' H'/\aK B w0 Mx N w' ρ' fr' H' a') Q:=by
 unfold awO at hk;obtain ⟨rE,hk⟩:=hk;have Aq: ∀s d x,o.op= .convert s d x-> ∃e,P.underlying s=some e:=fun s d x ho=>by
  rw [ho] at rE;simp only [cvOk] at rE;cases hu:P.underlying s with
  |some e=>exact ⟨e,rfl⟩
  |none=>simp [tk,hu] at rE
 unfold Oper.wp
 split at hk
 ·rename_i p r hq
  obtain ⟨hp,hd,hK⟩:=hk;obtain ⟨v,bd,hv⟩:=NF (P:=P) h.objs h.ev Aq hq hp;rw [bd];exact ⟨ρ,_,_,hK,h.put hd hv⟩
 ·split at hk
  ·rename_i p r ob bH
   obtain ⟨hp,hd,hK⟩:=hk;obtain ⟨v,w',bd,hs,hv,_⟩:=UJ (P:=P) h (Ee (zzA _)) bH hp;rw [bd];exact ⟨_,_,_,hK,hs.put hd hv⟩
  ·unfold awX at hk
   split at hk
   ·rename_i t x y ho
    split at hk
    ·rename_i p id ob aZ
     obtain ⟨hp,hd,hK⟩:=hk;obtain ⟨w',bd,hs⟩:=UM (P:=P) h (h.ev x) (h.ev y) aZ hp
     have:(execOp a.eval o).run P w= .ok .skip w':=by simp only [execOp,ho];simp [bd]
     rw [this];exact ⟨_,_,_,hK,hs.put hd (.any _)⟩
    ·exact hk.elim
   ·rename_i t m k x ho
    split at hk
    ·rename_i id ob aZ
     obtain ⟨hd,hK⟩:=hk;obtain ⟨w',bd,hs⟩:=UL (P:=P) h (h.ev m) (h.ev k) (h.ev x) aZ
     have:(execOp a.eval o).run P w= .ok .skip w':=by simp only [execOp,ho];simp [bd]
     rw [this];exact ⟨_,_,_,hK,hs.put hd (.any _)⟩
    ·exact hk.elim
   ·rename_i c ho
    split at hk
    ·rename_i Ar
     split at hk
     ·rename_i s x t t' h1 h2
      obtain ⟨rfl,hk⟩:=hk
      split at hk
      ·rename_i p r fr' H' ji
       obtain ⟨hp,hd,hK⟩:=hk;obtain ⟨z,w',ρ',bd,hs,hv⟩:=ZV (P:=P) (ty:=o.type) h (h.ev s) (h.ev x) ji hp;obtain ⟨callee,args,ts⟩:=c;simp only at Ar h1 h2;have e1:args= #[s,x]:=by simpa using congrArg List.toArray h1
       have e2:ts= #[t,t]:=by simpa using congrArg List.toArray h2
       subst e1 e2 Ar
       have:(execOp a.eval o).run P w= .ok (.value z) w':=by simp [execOp,ho,resolve,invoke,builtin,bd]
       rw [this];exact ⟨_,_,_,hK,hs.put hd hv⟩
      ·exact hk.elim
     ·exact hk.elim
    ·rename_i f Ar
     split at hk
     ·rename_i g cap hf
      obtain ⟨hd,hk⟩:=hk;obtain ⟨vs,ef,hl,hx⟩:=(hf▸h.ev f).eO;have pf:=yug (P:=P) h hk (vs:=c.args.toList.map a.eval++vs) (by simp [hl]) (fun i v x h1 h2=>by
       by_cases hi:i<c.args.toList.length
       ·rw [List.getElem?_append_left (by simpa using hi),zzO] at h1 h2;rw [zzH hi] at h1 h2;cases h1;cases h2;exact h.ev _
       ·rw [List.getElem?_append_right (by simpa using hi)] at h1 h2;simp only [List.length_map] at h1 h2;exact hx _ v x h1 h2)
      obtain ⟨iL,fy⟩:=pf;have e1:(c.args.map a.eval++vs.toArray)=(c.args.toList.map a.eval++vs).toArray:=by
       obtain ⟨callee,⟨l⟩,ts⟩:=c;simp
      have:(execOp a.eval o).run P w= .ok (.enter g (c.args.toList.map a.eval++vs).toArray) w:=by
       simp only [execOp,ho,resolve,Ar,ef];have h3:(#[]++Array.map a.eval c.args++vs.toArray)=(c.args.toList.map a.eval++vs).toArray:=by rw [Array.empty_append];exact e1
       simp only [Deferred.ofValue,invoke,Sem.run_bind,Sem.run_pure,Result.andThen_ok,h3];exact NN iL _
      rw [this];refine fy.mono ?_;rintro e w' ⟨v,r,ρ',fr',H',rfl,hK,hs,hv⟩;exact ⟨_,_,_,hK,hs.put hd hv⟩
     ·exact hk.elim
    ·exact hk.2 _ _ _ _ _ _ h Q
   ·exact hk.2 _ _ _ _ _ _ h Q
theorem Kh (h:aK B w0 Mx N w ρ fr H a) {ops:Array Oper} {j:Nat} {c:Bool} (hg:gval ops fr j= .bool c):yielded ops a.tmps j=some c:=by
 unfold gval at hg;unfold yielded;cases hd:(ops[j]?).bind (·.dst) with
 |none=>rw [hd] at hg;cases hg
 |some d=>
  rw [hd] at hg;simp only at hg
  split at hg
  case isFalse=>cases hg
  rename_i aD
  have hv:=h.frv d;rw [hg,gv,zzJ aD] at hv;have e:=hv.bool_inv;cases ht:a.tmps[d]? with
  |none=>simp [Array.getD_eq_getD_getElem?,ht,undef] at e
  |some u=>simp [Array.getD_eq_getD_getElem?,ht] at e;subst e;simp [ht]
theorem NG (h:aK B w0 Mx N w ρ fr H a) {ops:Array Oper} {j:Nat} (hg:gval ops fr j= .tup []):yielded ops a.tmps j=none:=by
 unfold gval at hg;unfold yielded;cases hd:(ops[j]?).bind (·.dst) with
 |none=>rw [hd] at hg;cases hg
 |some d=>
  rw [hd] at hg;simp only at hg
  split at hg
  case isFalse=>cases hg
  rename_i aD
  have hv:=h.frv d;rw [hg,gv,zzJ aD] at hv;have e: ∃vs,a.tmps.getD d undef= .tuple vs:=by
   generalize a.tmps.getD d undef=v at hv;cases hv;exact ⟨_,rfl⟩
  obtain ⟨vs,e⟩:=e;cases ht:a.tmps[d]? with
  |none=>simp [ht]
  |some u=>simp [Array.getD_eq_getD_getElem?,ht] at e;subst e;simp [ht]
theorem aK.gput (h:aK B w0 Mx N w ρ fr H a) {ops:Array Oper} {j:Nat} {c:Bool} (hg:gval ops fr j= .bool c):aK B w0 Mx N w ρ (gput ops fr j c) H a:=by
 unfold Go.Proofs.YtjpbeacamoijhaaGreatDoor.gput;unfold gval at hg
 split
 ·rename_i d hd
  rw [hd] at hg;simp only at hg
  split at hg
  ·refine ⟨h.below,h.hB,h.mx,h.own,h.objs,h.inj,fun t=>?_,h.defers,h.size⟩;simp only [fget]
   split
   ·rename_i e;subst e;rw [<-hg];exact h.frv d
   ·exact h.frv t
  ·cases hg
 ·exact h
theorem J3 {ops:Array Oper} {Q:Exit->Fr->Hp->Prop}: ∀(n k:Nat) (w:World) (ρ:Nat->Addr) (fr:Fr) (H:Hp) (a:Act),k+n=ops.size->awL P N ops (ops.toList.drop k) fr H (Q .normal)->aK B w0 Mx N w ρ fr H a->
  wpOps P ops (fun e a' w'=> ∃ρ' fr' H',Q e fr' H'/\aK B w0 Mx N w' ρ' fr' H' a') (List.range' k n) a w
 |0,k,w,ρ,fr,H,a,hk,hq,hs=>by
  rw [List.drop_of_length_le (by simp;omega)] at hq;simp only [awL] at hq;simp only [List.range'_zero,wpOps];exact ⟨ρ,fr,H,hq,hs⟩
 |n+1,k,w,ρ,fr,H,a,hk,hq,hs=>by
  have aD:k<ops.size:=by omega
  rw [List.drop_eq_getElem_cons (by simpa using aD)] at hq;simp only [awL,Array.getElem_toList] at hq;rw [List.range'_succ];simp only [wpOps,Array.getElem?_eq_getElem aD]
  have mN: ∀{K:Fr->Hp->Prop},(∀fr' H',K fr' H'->awL P N ops (ops.toList.drop (k+1)) fr' H' (Q .normal))-> ∀(a':Act) (w':World),(∃ρ' fr' H',K fr' H'/\aK B w0 Mx N w' ρ' fr' H' a')->
   wpOps P ops (fun e a' w'=> ∃ρ' fr' H',Q e fr' H'/\aK B w0 Mx N w' ρ' fr' H' a') (List.range' (k+1) n) a' w':=fun hK a' w' ⟨ρ',fr',H',h1,h2⟩=>J3 n (k+1) w' ρ' fr' H' a' (by omega) (hK _ _ h1) h2
  split at hq
  ·rename_i hg
   have hw:Region.wanted ops[k] (yielded ops a.tmps)=true:=by simp [Region.wanted,hg]
   rw [zzJ hw];exact .inl (Oper.wp_mono (mN fun _ _ h=>h) (Fx hs hq _))
  ·rename_i j b hg
   split at hq
   ·rename_i c hc
    have hy:=Kh hs hc;by_cases qX:c=b
    ·have hw:Region.wanted ops[k] (yielded ops a.tmps)=true:=by simp [Region.wanted,hg,hy,qX]
     rw [zzJ hw];exact .inl (Oper.wp_mono (mN fun _ _ h=>h) (Fx (hs.gput (qX▸hc)) (hq.1 qX) _))
    ·have hw: ¬Region.wanted ops[k] (yielded ops a.tmps)=true:=by simp [Region.wanted,hg,hy,qX]
     rw [zzI hw];have sE:c= !b:=by cases c<;>cases b<;>simp_all
     obtain ⟨hd,hq⟩:=hq.2 sE;exact J3 n (k+1) w ρ _ H _ (by omega) hq ((hs.gput (sE▸hc)).put hd (.tup [] [] rfl (fun i v x h=>by simp at h)))
   ·rename_i hc
    have hy:=NG hs hc;have hw: ¬Region.wanted ops[k] (yielded ops a.tmps)=true:=by simp [Region.wanted,hg,hy]
    rw [zzI hw];obtain ⟨hd,hq⟩:=hq;exact J3 n (k+1) w ρ _ H _ (by omega) hq (hs.put hd (.tup [] [] rfl (fun i v x h=>by simp at h)))
   ·exact hq.elim
theorem qj.mono {c:Code} {Q Q':Exit->Fr->Hp->Prop} (h:qj P N c fr H Q) (hq: ∀e fr H,Q e fr H->Q' e fr H):qj P N c fr H Q':=
 fun B w0 Mx w ρ a hs=>wp_mono (h B w0 Mx w ρ a hs) fun _ _ _ ⟨ρ',fr',H',h1,h2⟩=>⟨ρ',fr',H',hq _ _ _ h1,h2⟩
def Wk (fr:Fr) (H:Hp) (fr':Fr) (H':Hp):Prop:= ∀(B:Nat) (w0:nN) (Mx:Nat->Prop) (N:Nat) (w:World) (ρ:Nat->Addr) (a:Act),aK B w0 Mx N w ρ fr H a-> ∃ρ',aK B w0 Mx N w ρ' fr' H' a
theorem qj.wk {c:Code} {Q:Exit->Fr->Hp->Prop} {fr':Fr} {H':Hp} (hw:Wk fr H fr' H') (h:qj P N c fr' H' Q):qj P N c fr H Q:=
 fun B w0 Mx w ρ a hs=>let ⟨ρ',bJ⟩:=hw B w0 Mx N w ρ a hs;h B w0 Mx w ρ' a bJ
def ykz (Q:Exit->Fr->Hp->Prop) (K:Fr->Hp->Prop):Exit->Fr->Hp->Prop
 | .normal,fr,H=>K fr H
 |e,fr,H=>Q e fr H
def yfv (id:Nat) (Q:Exit->Fr->Hp->Prop):Exit->Fr->Hp->Prop
 | .exit bY,fr,H=>if bY=id then Q .normal fr H else Q (.exit bY) fr H
 |e,fr,H=>Q e fr H
structure cN (P:Program) (N:Nat) (c:Code) (fr:Fr) (H:Hp) (Q:Exit->Fr->Hp->Prop):Prop where
 out:qj P N (.loop c) fr H Q
structure ba (P:Program) (N:Nat) (id:Nat) (ops:Array Oper) (fr:Fr) (H:Hp) (Q:Exit->Fr->Hp->Prop):Prop where
 out:qj P N (.region id ops true) fr H Q
def Ik (P:Program) (N:Nat) (ops:Array Oper) (fr:Fr) (H:Hp) (K:Fr->Hp->Prop):Prop:=awL P N ops ops.toList fr H K
theorem y91 {P:Program} {N:Nat} (l:List Oper) {fr:Fr} {H:Hp} {K:Fr->Hp->Prop}:Ik P N l.toArray fr H K=awL P N l.toArray l fr H K:=rfl
def awC (P:Program) (N:Nat):Code->Fr->Hp->(Exit->Fr->Hp->Prop)->Prop
 | .skip,fr,H,Q=>Q .normal fr H
 | .region _ ops false,fr,H,Q=>Ik P N ops fr H (Q .normal)
 | .region id ops true,fr,H,Q=>ba P N id ops fr H Q
 | .seq x y,fr,H,Q=>awC P N x fr H (ykz Q fun fr' H'=>qj P N y fr' H' Q)
 | .cond c x y,fr,H,Q=>match evA fr c with
   | .bool b=>sY b true (awC P N x fr H Q) (awC P N y fr H Q)
   |_=>False
 | .block id c,fr,H,Q=>awC P N c fr H (yfv id Q)
 | .loop c,fr,H,Q=>cN P N c fr H Q
 | .exit id,fr,H,Q=>Q (.exit id) fr H
 | .ret,fr,H,Q=>Q .ret fr H
 | .label _,fr,H,Q=>Q .normal fr H
 |_,_,_,_=>False
theorem ah: ∀(c:Code) (fr:Fr) (H:Hp) (Q:Exit->Fr->Hp->Prop),awC P N c fr H Q->qj P N c fr H Q:=by
 intro c
 induction c with
 |skip=>intro fr H Q h B w0 Mx w ρ a hs;exact wp_skip ⟨ρ,fr,H,h,hs⟩
 |region id ops d=>
  intro fr H Q h;cases d with
  |true=>exact h.out
  |false=>
   intro B w0 Mx w ρ a hs;refine wp_region ?_;rw [List.range_eq_range'];exact J3 ops.size 0 w ρ fr H a (by omega) (show awL P N ops (ops.toList.drop 0) fr H (Q .normal) from by rw [List.drop_zero];exact h) hs
 |seq x y ihx _=>
  intro fr H Q h B w0 Mx w ρ a hs;refine wp_seq (wp_mono (ihx fr H _ h B w0 Mx w ρ a hs) ?_);rintro e a' w' ⟨ρ',fr',H',h1,h2⟩;cases e with
  |normal=>exact h1 B w0 Mx w' ρ' a' h2
  |_=>exact ⟨ρ',fr',H',h1,h2⟩
 |cond c x y ihx ihy=>
  intro fr H Q h B w0 Mx w ρ a hs;simp only [awC] at h
  split at h
  ·rename_i b hb
   have e:=(hb▸hs.ev c).bool_inv;cases b with
   |true=>exact wp_cond_true e (ihx fr H Q (h.1 rfl) B w0 Mx w ρ a hs)
   |false=>exact wp_cond_false e (ihy fr H Q (h.2 rfl) B w0 Mx w ρ a hs)
  ·exact h.elim
 |block id c ih=>
  intro fr H Q h B w0 Mx w ρ a hs;refine wp_block (wp_mono (ih fr H _ h B w0 Mx w ρ a hs) ?_);rintro e a' w' ⟨ρ',fr',H',h1,h2⟩;cases e with
  |exit bY=>
   simp only [yfv] at h1;simp only [Exit.inBlock]
   split
   ·rename_i hh;rw [zzJ hh] at h1;exact ⟨ρ',fr',H',h1,h2⟩
   ·rename_i hh;rw [zzI hh] at h1;exact ⟨ρ',fr',H',h1,h2⟩
  |_=>exact ⟨ρ',fr',H',h1,h2⟩
 |loop c _=>intro fr H Q h;exact h.out
 |exit id=>intro fr H Q h B w0 Mx w ρ a hs;exact wp_exit ⟨ρ,fr,H,h,hs⟩
 |ret=>intro fr H Q h B w0 Mx w ρ a hs;exact wp_ret ⟨ρ,fr,H,h,hs⟩
 |label l=>intro fr H Q h B w0 Mx w ρ a hs;exact wp_label ⟨ρ,fr,H,h,hs⟩
 |_=>intro fr H Q h;exact h.elim
theorem cN.intro {c:Code} {Q:Exit->Fr->Hp->Prop} (Inv:Nat->Fr->Hp->Prop) (h0: ∃n fr0 H0,Wk fr H fr0 H0/\Inv n fr0 H0)
  (hr: ∀n fr H,Inv n fr H->qj P N c fr H (ykz Q fun fr' H'=> ∃m xZ H1,m<n/\Wk fr' H' xZ H1/\Inv m xZ H1)):cN P N c fr H Q:=by
 refine ⟨?_⟩;intro B w0 Mx w ρ a hs;obtain ⟨n0,fr0,H0,hw0,vD⟩:=h0;obtain ⟨ρ0',hs0⟩:=hw0 B w0 Mx N w ρ a hs
 have P8: ∀(n:Nat) (a:Act) (w:World),(∃ρ fr H,Inv n fr H/\aK B w0 Mx N w ρ fr H a)-> ∀(b:Frame) (k:List Item) (cs:List Frame),
   ∃e a' w',(∃ρ' fr' H',Q e fr' H'/\aK B w0 Mx N w' ρ' fr' H' a')/\Arrives P (lone (b.at a (.code c:: .inLoop c::k)) cs w) b k cs e a' w':=by
  intro n
  induction n using Nat.strongRecOn with
  |_ n ih=>
   intro a w hI b k cs;obtain ⟨ρ,fr,H,hinv,hs⟩:=hI;obtain ⟨e,a₁,w₁,hq,iE⟩:=hr n fr H hinv B w0 Mx w ρ a hs b (.inLoop c::k) cs;obtain ⟨ρ1,xZ,H1,hq,pM⟩:=hq;cases e with
   |normal=>
    obtain ⟨m,fr2,H2,aD,hwk,hi⟩:=hq;obtain ⟨ρ2,oX⟩:=hwk B w0 Mx N w₁ ρ1 a₁ pM;obtain ⟨e₂,a₂,w₂,hq₂,harr₂⟩:=ih m aD a₁ w₁ ⟨ρ2,fr2,H2,hi,oX⟩ b k cs;exact ⟨e₂,a₂,w₂,hq₂, .of_steps (Steps.trans iE (.one step_inLoop)) harr₂⟩
   |exit id=>exact ⟨_,a₁,w₁,⟨ρ1,xZ,H1,hq,pM⟩, .pass (x:= .inLoop c) rfl (fun _ _=> .inl (by simp)) iE⟩
   |goto l=>exact ⟨_,a₁,w₁,⟨ρ1,xZ,H1,hq,pM⟩, .pass (x:= .inLoop c) rfl (fun _ _=> .inl (by simp)) iE⟩
   |ret=>exact ⟨_,a₁,w₁,⟨ρ1,xZ,H1,hq,pM⟩, .pass (x:= .inLoop c) rfl (fun _ _=> .inl (by simp)) iE⟩
   |panic ch=>exact ⟨_,a₁,w₁,⟨ρ1,xZ,H1,hq,pM⟩, .pass (x:= .inLoop c) rfl (fun _ _=> .inl (by simp)) iE⟩
   |outgrown=>exact ⟨_,a₁,w₁,⟨ρ1,xZ,H1,hq,pM⟩, .pass (x:= .inLoop c) rfl (fun _ _=> .inl (by simp)) iE⟩
 intro b k cs;obtain ⟨e,a',w',hq,iE⟩:=P8 n0 a w ⟨ρ0',fr0,H0,vD,hs0⟩ b k cs;exact ⟨e,a',w',hq, .of_steps (.one step_loop) iE⟩
def s1 (H:Hp):AV->Bool
 | .ptr i _=>(hget H i).isSome
 | .sl _ i _ _=>(hget H i).isSome
 | .mp i=>(hget H i).isSome
 | .agg _| .tup _| .fn _ _=>false
 |_=>true
def s2 (H:Hp):AV->Bool
 | .agg xs=>xs.all (s1 H)
 | .fn _ xs=>xs.all (s1 H)
 |x=>s1 H x
def s3 (H:Hp):AV->Bool
 | .agg xs=>xs.all (s2 H)
 | .tup xs=>xs.all (s2 H)
 | .fn _ xs=>xs.all (s2 H)
 |x=>s1 H x
def sO (H:Hp):AObj->Bool
 | .cells _ (.lst l)=>l.all (s3 H)
 | .imap _ l=>l.all fun q=>s3 H q.2
 | .gmap _ _ l=>l.all fun q=>s3 H q.2.2
 | .iter mid _ _ _=>(hget H mid).isSome
 |_=>true
theorem VR.Cn {M:Nat->Prop} {D:Nat->Prop} {H:Hp} {v:Value} {x:AV} (h:VR w M ρ D v x) (hp:s1 H x=true):VR w M ρ (DD H) v x:=by
 have hs: ∀i,(hget H i).isSome=true->DD H i:=fun i hi=>Option.isSome_iff_exists.1 hi;cases h with
 |any=>exact .any _
 |int=>exact .int _ _
 |bool=>exact .bool _
 |str=>exact .str _
 |nils=>exact .nils
 |ro es len c ad cap x hl hc he h0 hv=>exact .ro es len c ad cap x hl hc he h0 hv
 |rp c off a x hb hm hj hv=>exact .rp c off a x hb hm hj hv
 |ptr i off hd=>exact .ptr i off (hs i hp)
 |sl es i off len cap hd hc arr t ad ha hb hr=>exact .sl es i off len cap (hs i hp) hc arr t ad ha hb hr
 |mp i hd=>exact .mp i (hs i hp)
 |_=>cases hp
theorem VR.El {M:Nat->Prop} {D:Nat->Prop} {H:Hp} {v:Value} {x:AV} (h:VR w M ρ D v x) (hp:s2 H x=true):VR w M ρ (DD H) v x:=by
 cases x with
 |agg xs=>
  obtain ⟨vs,rfl,hl,hx⟩:=h.bI;exact .agg vs xs hl fun i v x h1 h2=>(hx i v x h1 h2).Cn (List.all_eq_true.1 hp _ (zzN h2))
 |fn f xs=>
  obtain ⟨vs,rfl,hl,hx⟩:=h.eO;exact .fn f vs xs hl fun i v x h1 h2=>(hx i v x h1 h2).Cn (List.all_eq_true.1 hp _ (zzN h2))
 |_=>exact h.Cn hp
theorem VR.vi {M:Nat->Prop} {D:Nat->Prop} {H:Hp} {v:Value} {x:AV} (h:VR w M ρ D v x) (hp:s3 H x=true):VR w M ρ (DD H) v x:=by
 cases x with
 |agg xs=>
  obtain ⟨vs,rfl,hl,hx⟩:=h.bI;exact .agg vs xs hl fun i v x h1 h2=>(hx i v x h1 h2).El (List.all_eq_true.1 hp _ (zzN h2))
 |fn f xs=>
  obtain ⟨vs,rfl,hl,hx⟩:=h.eO;exact .fn f vs xs hl fun i v x h1 h2=>(hx i v x h1 h2).El (List.all_eq_true.1 hp _ (zzN h2))
 |tup xs=>
  obtain ⟨vs,rfl,hl,hx⟩:=h.ja;exact .tup vs xs hl fun i v x h1 h2=>(hx i v x h1 h2).El (List.all_eq_true.1 hp _ (zzN h2))
 |_=>exact h.Cn hp
def subF (fr:Fr) (H':Hp):Fr->Prop
 |[]=>True
 |(t,x)::r=>fget fr t=x/\s3 H' x=true/\subF fr H' r
def subH (H H':Hp):Hp->Prop
 |[]=>True
 |(i,o)::r=>hget H i=some o/\sO H' o=true/\subH H H' r
theorem M6 {fr:Fr} {H':Hp}: ∀{fr':Fr},subF fr H' fr'-> ∀t,fget fr' t= .any\/(fget fr' t=fget fr t/\s3 H' (fget fr' t)=true)
 |[],_,t=> .inl rfl
 |(s,x)::r,h,t=>by
  obtain ⟨h1,h2,h3⟩:=h;simp only [fget]
  split
  ·rename_i e;subst e;exact .inr ⟨h1.symm,h2⟩
  ·exact M6 h3 t
theorem Ed {H H':Hp}: ∀{K:Hp},subH H H' K-> ∀i o,hget K i=some o->hget H i=some o/\sO H' o=true
 |[],_,i,o,h=>by cases h
 |(j,q)::r,h,i,o,hg=>by
  obtain ⟨h1,h2,h3⟩:=h;simp only [hget] at hg
  split at hg
  ·rename_i e;subst e;cases hg;exact ⟨h1,h2⟩
  ·exact Ed h3 i o hg
theorem aK.FW {fr fr':Fr} {H H':Hp} (hf:subF fr H' fr') (hh:subH H H' H') (hs:aK B w0 Mx N w ρ fr H a):aK B w0 Mx N w ρ fr' H' a:=by
 refine (hs.weaken (fun id o ho=>(Ed hh id o ho).1) (fun t=>(M6 hf t).imp id (·.1)) (fun id o ho M hr=>?_) (fun t M v hv=>?_))
 ·have oV:=(Ed hh id o ho).2;cases o with
  |gone=>trivial
  |cells t c=>
   obtain ⟨k1,arr,k2,k3,k4⟩:=hr;refine ⟨k1,arr,k2,k3,fun j hj=>?_⟩;obtain ⟨u,hu,hv⟩:=k4 j hj;refine ⟨u,hu,?_⟩;cases c with
   |ints l=>exact hv.cE rfl
   |bools l=>exact hv.cE rfl
   |lst l=>
    simp only [Cs.len] at hj;simp only [Cs.get,zzB,zzH hj,Option.getD_some] at hv⊢;exact hv.vi (List.all_eq_true.1 oV _ (List.getElem_mem hj))
  |gmap t ck l=>
   obtain ⟨es,k1,k2,k3⟩:=hr;exact ⟨es,k1,k2,fun j e q he hl=>let ⟨g1,g2,g3⟩:=k3 j e q he hl;⟨g1,g2,g3.vi (List.all_eq_true.1 oV q (zzN hl))⟩⟩
  |iter mid s sn la=>
   obtain ⟨_,k2,k3⟩:=hr;exact ⟨Option.isSome_iff_exists.1 oV,k2,k3⟩
  |imap t l=>
   obtain ⟨k0,es,ck,k1,k2,k3⟩:=hr;exact ⟨k0,es,ck,k1,k2,fun j e k x he hl=>let ⟨g1,g2,g3⟩:=k3 j e k x he hl;⟨g1,g2.vi (List.all_eq_true.1 oV (k,x) (zzN hl)),g3⟩⟩
  |fmap t c=>exact hr
 ·rcases M6 hf t with e|⟨_,e⟩
  ·rw [e];exact .any _
  ·exact hv.vi e
theorem Wk.sub {fr fr':Fr} {H H':Hp} (hf:subF fr H' fr') (hh:subH H H' H'):Wk fr H fr' H':=fun _ _ _ _ _ ρ _ hs=>⟨ρ,hs.FW hf hh⟩
def retA (P:Program) (rs:List ResultVar) (r:AV) (e:Exit) (fr:Fr) (H:Hp):Prop:=
 (e= .ret\/e= .normal)/\match resL P fr H rs with
 |some (p,l)=>p/\eT H 6 (yf7 l)/\snap H 6 (yf7 l)=r
 |none=>False
theorem Fn.intro {f:Nat} {fn:Func} {c:Code} {args:List AV} {r:AV} (rs:List ResultVar) (hf:P.funcs[f]?=some fn) (hb:fn.body=some c) (CQ:fn.results.toList=rs) (hn:(fn.name== "runtime.NumGoroutine")=false) (hl:args.length<=fn.ntmps/\fn.ntmps<=1000000)
  (h:qj P fn.ntmps c (frOf 0 args) [] (retA P rs r)):Fn P f args r:=by
 subst CQ;refine ⟨⟨fn,hf,by rw [hb];rfl,hn⟩,fun w Mx vs pQ uE hv=>calls_of_wp hf hb ?_⟩;have tr:aK w.heap.size ⟨w,fun _=>undef⟩ Mx fn.ntmps w ρ0 (frOf 0 args) [] {tmps:=vs.toArray++Array.replicate (fn.ntmps-vs.toArray.size) undef,defers:=[]}:=by
  refine ⟨Below.refl _ _,zzA _,pQ.2,(fun id o h=>by cases h),(fun id o h=>by cases h),(fun id o _ _ h=>by cases h),fun t=>?_,⟨rfl,fun _ hb=>pQ.1.later hb⟩,by simp;omega,hl.2⟩;have Ao:gv ⟨w,fun _=>undef⟩ {tmps:=vs.toArray++Array.replicate (fn.ntmps-vs.toArray.size) undef,defers:=[]} t=(vs.toArray++Array.replicate (fn.ntmps-vs.toArray.size) undef).getD t undef:=by
   unfold gv;split
   ·rfl
   ·rw [Array.getD_eq_getD_getElem?,Array.getElem?_eq_none (by simp;omega)];rfl
  rw [Ao];rw [US,zzJ (Nat.zero_le _),Nat.sub_zero];by_cases ht:t<args.length
  ·have CH:t<vs.length:=by omega
   have e1:(vs.toArray++Array.replicate (fn.ntmps-vs.toArray.size) undef).getD t undef=vs[t]:=by
    rw [Array.getD_eq_getD_getElem?,Array.getElem?_append_left (by simpa using CH)];simp [CH]
   rw [e1]
   have:=hv t vs[t] args[t] (zzH CH) (zzH ht)
   have e2:args.getD t .any=args[t]:=by simp [ht]
   rw [e2];exact VR.D0 (this.carry (M':=MM Mx [] ρ0) (ρ':=ρ0) (zzA _) (fun b _ hm=>⟨rfl,fun hh=>by
    rcases hh with hh|⟨id,o,hh,_⟩
    ·exact hm hh
    ·cases hh⟩) (D':=fun _=>False) (fun _ h=>h.elim))
  ·have e2:args.getD t .any= .any:=by simp [zzP (Nat.le_of_not_lt ht)]
   rw [e2];exact .any _
 refine wp_mono (h _ ⟨w,fun _=>undef⟩ Mx w ρ0 _ tr) ?_;rintro e a' w' ⟨ρ',fr',H',⟨he,hr⟩,hs⟩
 split at hr
 ·rename_i p l vy
  obtain ⟨hp,iw,CN⟩:=hr;obtain ⟨v,bd,CI⟩:=U9 (P:=P) hs vy hp;have qT:=JB hs (My:=Mx) (ρ0:=ρ0) (fun _ h=>h) 6 v (yf7 l) CI iw;rw [CN] at qT;have sb:bodyPost P fn (fun e w'=> ∃v,e= .returned v/\Below w.heap.size w w'/\VR w' Mx ρ0 (fun _=>False) v r) .ret a' w':=⟨hs.defers.1,v,bd,v,rfl,hs.below,qT⟩;rcases he with rfl|rfl
  ·exact sb
  ·exact sb
 ·exact hr.elim
def retO (P:Program) (rs:List ResultVar) (r:AV) (H0:Hp) (e:Exit) (fr:Fr) (H:Hp):Prop:=
 (e= .ret\/e= .normal)/\match resL P fr H rs with
 |some (p,l)=>p/\yf7 l=r/\s3 H0 r=true/\subH H H0 H0
 |none=>False
theorem uX.intro {f:Nat} {fn:Func} {c:Code} {args:List AV} {r:AV} {H0:Hp} (rs:List ResultVar) (hf:P.funcs[f]?=some fn) (hb:fn.body=some c) (CQ:fn.results.toList=rs) (hn:(fn.name== "runtime.NumGoroutine")=false) (hl:args.length<=fn.ntmps/\fn.ntmps<=1000000)
  (h:qj P fn.ntmps c (frOf 0 args) [] (retO P rs r H0)):uX P f args r H0:=by
 subst CQ;refine ⟨⟨fn,hf,by rw [hb];rfl,hn⟩,fun w Mx vs pQ uE hv=>?_⟩
 have rY:aK w.heap.size ⟨w,fun _=>undef⟩ Mx 0 w ρ0 [] [] {tmps:= #[],defers:=[]}:=
  ⟨Below.refl _ _,zzA _,pQ.2,(fun id o h=>by cases h),(fun id o h=>by cases h),(fun id o _ _ h=>by cases h),fun t=> .any _,⟨rfl,fun _ hb=>pQ.1.later hb⟩,by simp,by omega⟩
 have QG:MM Mx [] ρ0=Mx:=by
  funext x;apply propext;constructor
  ·rintro (g|⟨id,o,g,_⟩)
   ·exact g
   ·cases g
  ·exact Or.inl
 have Qt:pS P f args [] [] (fun r' _ H'=>r'=r/\s3 H0 r=true/\subH H' H0 H0):=by
  refine ⟨.inl ⟨fn,c,hf,hb,hn,hl,?_⟩⟩;rw [show frOf 0 args++lft []=frOf 0 args by simp [lft]];refine h.mono fun e fr H hq=>⟨hq.1,?_⟩;have oY:=hq.2
  split at oY
  ·exact ⟨oY.1,oY.2.1,oY.2.2.1,oY.2.2.2⟩
  ·exact oY.elim
 obtain ⟨_,fy⟩:=Ko (P:=P) rY Qt uE (fun i v x g1 g2=>by rw [QG];exact (hv i v x g1 g2).D0);refine fy.mono ?_;rintro e w' ⟨v,r',ρ',fr',H',rfl,⟨rfl,h3,aN⟩,hs,CI⟩;have oX:=hs.FW (fr':=[]) (H':=H0) trivial aN;refine ⟨v,ρ',rfl,oX,?_⟩;refine VR.vi (D:=DD H') (CI.carry (zzA _) (fun b _ hm=>⟨rfl,fun g=>hm ?_⟩) (fun k hd=>⟨hd,rfl,fun arr t ha=>⟨arr,ha,rfl⟩⟩)) h3
 rcases g with g|⟨id,o,g1,g2,g3⟩
 ·exact .inl g
 ·exact .inr ⟨id,o,(Ed aN id o g1).1,g2,g3⟩
end
section
variable (H:Hp) (n:Nat)
def snS (n:Nat) (es off len:Nat):Option AObj->AV
 |some (.cells _ (.lst l))=> .ro es len ((Cs.lst (l.map (snap H n))).uu off (len*es))
 |some (.cells _ c)=> .ro es len (c.uu off (len*es))
 |_=> .any
def F2 (n:Nat) (off:Nat):Option AObj->AV
 |some (.cells _ (.lst l))=> .rp (.lst (l.map (snap H n))) off
 |some (.cells _ c)=> .rp c off
 |_=> .any
def FY (n:Nat) (es off len:Nat):Option AObj->Prop
 |some (.cells _ (.lst l))=>0<es/\off+len*es<=l.length/\ ∀x∈l,eT H n x
 |some (.cells _ c)=>0<es/\off+len*es<=c.len
 |_=>True
def sqP (n:Nat):Option AObj->Prop
 |some (.cells _ (.lst l))=> ∀x∈l,eT H n x
 |_=>True
theorem snS1 (es off len t:Nat) (l:List Int):snS H n es off len (some (.cells t (.ints l)))= .ro es len (.ints ((l.drop off).take (len*es))):=rfl
theorem snS2 (es off len t:Nat) (l:List Bool):snS H n es off len (some (.cells t (.bools l)))= .ro es len (.bools ((l.drop off).take (len*es))):=rfl
theorem snS3 (es off len t:Nat) (l:List AV):snS H n es off len (some (.cells t (.lst l)))= .ro es len (.lst (((l.map (snap H n)).drop off).take (len*es))):=rfl
theorem snP1 (off t:Nat) (l:List Int):F2 H n off (some (.cells t (.ints l)))= .rp (.ints l) off:=rfl
theorem snP2 (off t:Nat) (l:List Bool):F2 H n off (some (.cells t (.bools l)))= .rp (.bools l) off:=rfl
theorem snP3 (off t:Nat) (l:List AV):F2 H n off (some (.cells t (.lst l)))= .rp (.lst (l.map (snap H n))) off:=rfl
theorem sqS1 (es off len t:Nat) (l:List Int):FY H n es off len (some (.cells t (.ints l)))=(0<es/\off+len*es<=l.length):=rfl
theorem sqS2 (es off len t:Nat) (l:List Bool):FY H n es off len (some (.cells t (.bools l)))=(0<es/\off+len*es<=l.length):=rfl
theorem sqS3 (es off len t:Nat) (l:List AV):FY H n es off len (some (.cells t (.lst l)))=(0<es/\off+len*es<=l.length/\ ∀x∈l,eT H n x):=rfl
theorem sqP1 (t:Nat) (l:List Int):sqP H n (some (.cells t (.ints l)))=True:=rfl
theorem sqP2 (t:Nat) (l:List Bool):sqP H n (some (.cells t (.bools l)))=True:=rfl
theorem sqP3 (t:Nat) (l:List AV):sqP H n (some (.cells t (.lst l)))= ∀x∈l,eT H n x:=rfl
theorem y3g:snap H (n+1) .any= .any:=rfl
theorem y3h (k:IntKind) (m:Int):snap H (n+1) (.int k m)= .int k m:=rfl
theorem yy4 (b:Bool):snap H (n+1) (.bool b)= .bool b:=rfl
theorem y3i (b:ByteArray):snap H (n+1) (.str b)= .str b:=rfl
theorem yy5:snap H (n+1) .nils= .nils:=rfl
theorem y6q (es len:Nat) (c:Cs):snap H (n+1) (.ro es len c)= .ro es len c:=rfl
theorem y6r (c:Cs) (off:Nat):snap H (n+1) (.rp c off)= .rp c off:=rfl
theorem y3j (xs:List AV):snap H (n+1) (.agg xs)= .agg (xs.map (snap H n)):=rfl
theorem y3k (xs:List AV):snap H (n+1) (.tup xs)= .tup (xs.map (snap H n)):=rfl
theorem y6s (f:Nat) (xs:List AV):snap H (n+1) (.fn f xs)= .fn f (xs.map (snap H n)):=rfl
theorem y6t (es id off len:Nat):snap H (n+1) (.sl es id off len)=snS H n es off len (hget H id):=by
 simp only [snap,snS];split<;>simp_all
theorem y3l (id off:Nat):snap H (n+1) (.ptr id off)=F2 H n off (hget H id):=by
 simp only [snap,F2];split<;>simp_all
theorem yy6:eT H (n+1) .any=True:=rfl
theorem yy7 (k:IntKind) (m:Int):eT H (n+1) (.int k m)=True:=rfl
theorem yxo (b:Bool):eT H (n+1) (.bool b)=True:=rfl
theorem yy8 (b:ByteArray):eT H (n+1) (.str b)=True:=rfl
theorem yxp:eT H (n+1) .nils=True:=rfl
theorem y3m (es len:Nat) (c:Cs):eT H (n+1) (.ro es len c)=True:=rfl
theorem y3n (c:Cs) (off:Nat):eT H (n+1) (.rp c off)=True:=rfl
theorem yy9 (xs:List AV):eT H (n+1) (.agg xs)= ∀x∈xs,eT H n x:=rfl
theorem yza (xs:List AV):eT H (n+1) (.tup xs)= ∀x∈xs,eT H n x:=rfl
theorem y3o (f:Nat) (xs:List AV):eT H (n+1) (.fn f xs)= ∀x∈xs,eT H n x:=rfl
theorem y3p (es id off len:Nat):eT H (n+1) (.sl es id off len)=FY H n es off len (hget H id):=by
 simp only [eT,FY];split<;>simp_all
theorem yzb (id off:Nat):eT H (n+1) (.ptr id off)=sqP H n (hget H id):=by
 simp only [eT,sqP];split<;>simp_all
end
attribute [go_sem] snS1 snS2 snS3 snP1 snP2 snP3 sqS1 sqS2 sqS3 sqP1 sqP2 sqP3 y3g y3h yy4 y3i yy5 y6q y6r y3j y3k y6s y6t y3l yy6 yy7 yxo yy8 yxp y3m y3n yy9 yza y3o y3p yzb
section
variable (HF:Hp) (n b:Nat)
def fzS (HF:Hp) (es id off len:Nat):Option AObj->AV
 |some _=>snap HF 6 (.sl es id off len)
 |none=> .sl es id off len
def K8 (HF:Hp) (id off:Nat):Option AObj->AV
 |some _=>snap HF 6 (.ptr id off)
 |none=> .ptr id off
def Lb (HF:Hp) (es id off len:Nat):Option AObj->Prop
 |some _=>eT HF 6 (.sl es id off len)
 |none=>True
def Lc (HF:Hp) (id off:Nat):Option AObj->Prop
 |some _=>eT HF 6 (.ptr id off)
 |none=>True
def K9 (HF:Hp) (o:AObj):Option AObj->AObj
 |some _=> .gone
 |none=>frzO HF o
def KJ (H:Hp) (i:Nat) (r:List Nat):Option AObj->Hp
 |some o=>(i,o)::hsel H r
 |none=>hsel H r
theorem fzS1 (es id off len:Nat) (o:AObj):fzS HF es id off len (some o)=snap HF 6 (.sl es id off len):=rfl
theorem fzS2 (es id off len:Nat):fzS HF es id off len none= .sl es id off len:=rfl
theorem fzP1 (id off:Nat) (o:AObj):K8 HF id off (some o)=snap HF 6 (.ptr id off):=rfl
theorem fzP2 (id off:Nat):K8 HF id off none= .ptr id off:=rfl
theorem fqS1 (es id off len:Nat) (o:AObj):Lb HF es id off len (some o)=eT HF 6 (.sl es id off len):=rfl
theorem fqS2 (es id off len:Nat):Lb HF es id off len none=True:=rfl
theorem fqP1 (id off:Nat) (o:AObj):Lc HF id off (some o)=eT HF 6 (.ptr id off):=rfl
theorem fqP2 (id off:Nat):Lc HF id off none=True:=rfl
theorem fzO1 (o q:AObj):K9 HF o (some q)= .gone:=rfl
theorem fzO2 (o:AObj):K9 HF o none=frzO HF o:=rfl
theorem hsE1 (i:Nat) (r:List Nat) (o:AObj):KJ HF i r (some o)=(i,o)::hsel HF r:=rfl
theorem hsE2 (i:Nat) (r:List Nat):KJ HF i r none=hsel HF r:=rfl
theorem hsel1:hsel HF []=[]:=rfl
theorem hsel2 (i:Nat) (r:List Nat):hsel HF (i::r)=KJ HF i r (hget HF i):=by simp only [hsel];split<;>simp_all [KJ]
theorem y3q:cy HF (n+1) .any= .any:=rfl
theorem y3r (k:IntKind) (m:Int):cy HF (n+1) (.int k m)= .int k m:=rfl
theorem yzc (b:Bool):cy HF (n+1) (.bool b)= .bool b:=rfl
theorem y3s (b:ByteArray):cy HF (n+1) (.str b)= .str b:=rfl
theorem yzd:cy HF (n+1) .nils= .nils:=rfl
theorem y6u (es len:Nat) (c:Cs):cy HF (n+1) (.ro es len c)= .ro es len c:=rfl
theorem y6v (c:Cs) (off:Nat):cy HF (n+1) (.rp c off)= .rp c off:=rfl
theorem y6w (id:Nat):cy HF (n+1) (.mp id)= .mp id:=rfl
theorem y3t (xs:List AV):cy HF (n+1) (.agg xs)= .agg (xs.map (cy HF n)):=rfl
theorem y3u (xs:List AV):cy HF (n+1) (.tup xs)= .tup (xs.map (cy HF n)):=rfl
theorem y6x (f:Nat) (xs:List AV):cy HF (n+1) (.fn f xs)= .fn f (xs.map (cy HF n)):=rfl
theorem y6y (es id off len:Nat):cy HF (n+1) (.sl es id off len)=fzS HF es id off len (hget HF id):=by simp only [cy];split<;>simp_all [fzS]
theorem y3v (id off:Nat):cy HF (n+1) (.ptr id off)=K8 HF id off (hget HF id):=by simp only [cy];split<;>simp_all [K8]
theorem y3w:cC HF (n+1) .any=True:=rfl
theorem y3x (k:IntKind) (m:Int):cC HF (n+1) (.int k m)=True:=rfl
theorem yze (b:Bool):cC HF (n+1) (.bool b)=True:=rfl
theorem y3y (b:ByteArray):cC HF (n+1) (.str b)=True:=rfl
theorem yzf:cC HF (n+1) .nils=True:=rfl
theorem y6z (es len:Nat) (c:Cs):cC HF (n+1) (.ro es len c)=True:=rfl
theorem y60 (c:Cs) (off:Nat):cC HF (n+1) (.rp c off)=True:=rfl
theorem y61 (id:Nat):cC HF (n+1) (.mp id)=True:=rfl
theorem y3z (xs:List AV):cC HF (n+1) (.agg xs)= ∀x∈xs,cC HF n x:=rfl
theorem y30 (xs:List AV):cC HF (n+1) (.tup xs)= ∀x∈xs,cC HF n x:=rfl
theorem y62 (f:Nat) (xs:List AV):cC HF (n+1) (.fn f xs)= ∀x∈xs,cC HF n x:=rfl
theorem y63 (es id off len:Nat):cC HF (n+1) (.sl es id off len)=Lb HF es id off len (hget HF id):=by simp only [cC];split<;>simp_all [Lb]
theorem y31 (id off:Nat):cC HF (n+1) (.ptr id off)=Lc HF id off (hget HF id):=by simp only [cC];split<;>simp_all [Lc]
theorem frzH1:jH HF []=[]:=rfl
theorem frzH2 (i:Nat) (o:AObj) (r:Hp):jH HF ((i,o)::r)=(i,K9 HF o (hget HF i))::jH HF r:=by simp only [jH];split<;>simp_all [K9]
theorem y92 (t:Nat) (l:List Int):frzO HF (.cells t (.ints l))= .cells t (.ints l):=rfl
theorem y93 (t:Nat) (l:List Bool):frzO HF (.cells t (.bools l))= .cells t (.bools l):=rfl
theorem y94 (t:Nat) (l:List AV):frzO HF (.cells t (.lst l))= .cells t (.lst (l.map (cy HF 4))):=rfl
theorem y95:frzO HF .gone= .gone:=rfl
theorem y96 (t:Nat) (l:List (Int×AV)):frzO HF (.imap t l)= .imap t l:=rfl
theorem y97 (t ck:Nat) (l:List (ByteArray×Nat×AV)):frzO HF (.gmap t ck l)= .gmap t ck (l.map fun q=>(q.1,q.2.1,cy HF 4 q.2.2)):=rfl
theorem y98 (m s la:Nat) (sn:List Nat):frzO HF (.iter m s sn la)= .iter m s sn la:=rfl
theorem y64 (t ck:Nat) (l:List (ByteArray×Nat×AV)):yI HF (.gmap t ck l)= ∀q∈l,cC HF 4 q.2.2:=rfl
theorem y65 (m s la:Nat) (sn:List Nat):yI HF (.iter m s sn la)=True:=rfl
theorem y99 (t:Nat) (c:MF):frzO HF (.fmap t c)= .fmap t c:=rfl
theorem y66 (t:Nat) (c:MF):yI HF (.fmap t c)=True:=rfl
theorem y67 (t:Nat) (l:List Int):yI HF (.cells t (.ints l))=True:=rfl
theorem y68 (t:Nat) (l:List Bool):yI HF (.cells t (.bools l))=True:=rfl
theorem y69 (t:Nat) (l:List AV):yI HF (.cells t (.lst l))= ∀x∈l,cC HF 4 x:=rfl
theorem y7a:yI HF .gone=True:=rfl
theorem y7b (t:Nat) (l:List (Int×AV)):yI HF (.imap t l)=True:=rfl
theorem y32:renV b (n+1) .any= .any:=rfl
theorem y33 (k:IntKind) (m:Int):renV b (n+1) (.int k m)= .int k m:=rfl
theorem yzg (x:Bool):renV b (n+1) (.bool x)= .bool x:=rfl
theorem y34 (x:ByteArray):renV b (n+1) (.str x)= .str x:=rfl
theorem yzh:renV b (n+1) .nils= .nils:=rfl
theorem y7c (es len:Nat) (c:Cs):renV b (n+1) (.ro es len c)= .ro es len c:=rfl
theorem y7d (c:Cs) (off:Nat):renV b (n+1) (.rp c off)= .rp c off:=rfl
theorem y7e (id:Nat):renV b (n+1) (.mp id)= .mp (b+id):=rfl
theorem y35 (xs:List AV):renV b (n+1) (.agg xs)= .agg (xs.map (renV b n)):=rfl
theorem y36 (xs:List AV):renV b (n+1) (.tup xs)= .tup (xs.map (renV b n)):=rfl
theorem y7f (f:Nat) (xs:List AV):renV b (n+1) (.fn f xs)= .fn f (xs.map (renV b n)):=rfl
theorem y7g (es id off len:Nat):renV b (n+1) (.sl es id off len)= .sl es (b+id) off len:=rfl
theorem y37 (id off:Nat):renV b (n+1) (.ptr id off)= .ptr (b+id) off:=rfl
theorem yaaa (t:Nat) (l:List Int):renO b (.cells t (.ints l))= .cells t (.ints l):=rfl
theorem yaab (t:Nat) (l:List Bool):renO b (.cells t (.bools l))= .cells t (.bools l):=rfl
theorem yaac (t:Nat) (l:List AV):renO b (.cells t (.lst l))= .cells t (.lst (l.map (renV b 4))):=rfl
theorem yaad:renO b .gone= .gone:=rfl
end
attribute [go_sem] fzS1 fzS2 fzP1 fzP2 fqS1 fqS2 fqP1 fqP2 fzO1 fzO2 hsE1 hsE2 hsel1 hsel2 y3q y3r yzc y3s yzd y6u y6v y6w y3t y3u y6x y6y y3v y3w y3x yze y3y yzf y6z y60 y61 y3z y30 y62 y63 y31
attribute [go_sem] y97 y98 y64 y65 y99 y66 frzH1 frzH2 y92 y93 y94 y95 y96 y67 y68 y69 y7a y7b y32 y33 yzg y34 yzh y7c y7d y7e y35 y36 y7f y7g y37 yaaa yaab yaac yaad frzF ykx yky renH lft unl gput retI y9x y9y y9z y90 retO
section
variable (l m:List Int) (b d:List Bool) (x y:List AV) (i n:Nat)
theorem cl1:(Cs.ints l).len=l.length:=rfl
theorem cl2:(Cs.bools b).len=b.length:=rfl
theorem cl3:(Cs.lst x).len=x.length:=rfl
theorem cg1:(Cs.ints l).get i= .int .i64 (l.getD i 0):=rfl
theorem cg2:(Cs.bools b).get i= .bool (b.getD i false):=rfl
theorem cg3:(Cs.lst x).get i=x.getD i .any:=rfl
theorem cs1 (v:Int):(Cs.ints l).set i (.int .i64 v)= .ints (l.set i v):=rfl
theorem cs2 (v:Bool):(Cs.bools b).set i (.bool v)= .bools (b.set i v):=rfl
theorem cs3 (v:AV):(Cs.lst x).set i v= .lst (x.set i v):=by cases v<;>rfl
theorem ct1:(Cs.ints l).vf=l.map (AV.int .i64):=rfl
theorem ct2:(Cs.bools b).vf=b.map AV.bool:=rfl
theorem ct3:(Cs.lst x).vf=x:=rfl
theorem cd1:(Cs.ints l).drop n= .ints (l.drop n):=rfl
theorem cd2:(Cs.bools b).drop n= .bools (b.drop n):=rfl
theorem cd3:(Cs.lst x).drop n= .lst (x.drop n):=rfl
theorem ck1:(Cs.ints l).take n= .ints (l.take n):=rfl
theorem ck2:(Cs.bools b).take n= .bools (b.take n):=rfl
theorem ck3:(Cs.lst x).take n= .lst (x.take n):=rfl
theorem cw1:(Cs.ints l).uu i n= .ints ((l.drop i).take n):=rfl
theorem cw2:(Cs.bools b).uu i n= .bools ((b.drop i).take n):=rfl
theorem cw3:(Cs.lst x).uu i n= .lst ((x.drop i).take n):=rfl
theorem ca1:(Cs.ints l).app (.ints m)= .ints (l++m):=rfl
theorem ca2:(Cs.bools b).app (.bools d)= .bools (b++d):=rfl
theorem ca3:(Cs.lst x).app (.lst y)= .lst (x++y):=rfl
theorem co1 (c:Cs):appO c none=c:=rfl
theorem co2 (c c':Cs):appO c (some c')=c.app c':=rfl
theorem cn1:iQ none=0:=rfl
theorem cn2 (c:Cs):iQ (some c)=c.len:=rfl
theorem cc1:jk n (.ints l)= .ints l:=rfl
theorem cc2:jk n (.bools b)= .bools b:=rfl
theorem cc3:jk n (.lst x)= .lst (x.map (cutV n)):=rfl
end
attribute [go_sem] cl1 cl2 cl3 cg1 cg2 cg3 cs1 cs2 cs3 ct1 ct2 ct3 cd1 cd2 cd3 ck1 ck2 ck3 cw1 cw2 cw3 ca1 ca2 ca3 co1 co2 cn1 cn2 cc1 cc2 cc3
attribute [go_sem] yxd okM ykv yrg yrh yq2 yxa yw6 yw5 yw7 yxb yxc zrG yrj ynb idxF idxP entF entI entG gkA yi0 yw8 yw9 muP muG mkJ capF muF muK muM mkM mkE updI updB updP quF opF alF stF apF srcF ym8 ym7 binF binI unF ykt yna ym9 yku lenF yiz nilF yq1 ynh ydf yne yge yge.isAgg' setL ya6 yc3 isAg cvOk gval evA absV fget fput dok hget hset hnew ykz yfv
attribute [go_sem] mkC zC isI toI isBo toBo yfc apF.n2D yjz cutV cutO hcut fcut n1 n2 n3 frOf p1 p2 p3 retA resL yf7 flat yni I InI s1 s2 s3 sO subF subH Option.isSome_some
attribute [go_sem] List.getElem?_cons_zero List.getElem?_cons_succ Option.bind_some Option.map_some Option.map_none Option.bind_none List.map_cons List.map_nil List.all_cons List.all_nil zzG List.length_nil Bool.and_true Bool.and_self Bool.true_and Bool.or_true Bool.true_or Bool.or_false Bool.false_or Bool.and_false Bool.false_and
attribute [go_sem] Bool.false_eq_true Bool.true_eq_false Bool.not_true Bool.not_false List.nil_append List.cons_append List.append_nil decide_true decide_false if_true if_false true_and and_true and_self forall_const true_implies false_implies implies_true ne_eq not_true_eq_false not_false_eq_true and_false false_and true_or or_true or_false false_or
attribute [go_sem] Nat.zero_add Nat.add_zero Nat.mul_one Nat.one_mul Option.some.injEq AV.bool.injEq List.size_toArray List.flatMap_cons List.flatMap_nil List.getD_cons_zero List.getD_cons_succ List.mem_cons List.not_mem_nil forall_eq forall_eq_or_imp List.set_cons_zero List.set_cons_succ List.drop_zero List.drop_succ_cons List.take_zero List.take_succ_cons List.getElem?_toArray List.drop_nil List.take_nil
attribute [go_sem] List.range_zero bne_eq_false_iff_eq decide_eq_true_eq decide_eq_false_iff_not beq_iff_eq zzU bne_iff_ne Int.not_lt Int.not_le Bool.not_eq_true' Bool.not_eq_false' Bool.not_eq_true Bool.not_eq_false Nat.zero_mul Nat.mul_zero Int.toNat_zero zzC List.all_map List.map_map Nat.max_def eq_self Int.sub_zero Int.zero_add Int.add_zero List.length_replicate List.length_set List.length_map zzS Bool.or_eq_true Bool.decide_eq_true
def mO {α:Type} (x:Option (Prop×α)) (A:Prop->α->Prop) (B:Prop):Prop:=match x with
 |some (p,r)=>A p r
 |none=>B
def mB (x:AV) (A:Bool->Prop):Prop:=match x with
 | .bool b=>A b
 |_=>False
def mG (x:AV) (A:Bool->Prop) (B:Unit->Prop):Prop:=match x with
 | .bool c=>A c
 | .tup []=>B ()
 |_=>False
theorem y38 {x x':AV} {A:Bool->Prop} {B:Unit->Prop} (h:x=x'):mG x A B=mG x' A B:=by rw [h]
theorem y7h {c:Bool} {A:Bool->Prop} {B:Unit->Prop}:mG (.bool c) A B=A c:=rfl
theorem yaae {A:Bool->Prop} {B:Unit->Prop}:mG (.tup []) A B=B ():=rfl
def mF (x:AV) (A:Nat->List AV->Prop):Prop:=match x with
 | .fn g cap=>A g cap
 |_=>False
theorem y39 {α:Type} {x x':Option (Prop×α)} {A:Prop->α->Prop} {B:Prop} (h:x=x'):mO x A B=mO x' A B:=by rw [h]
theorem y4a {x x':AV} {A:Bool->Prop} (h:x=x'):mB x A=mB x' A:=by rw [h]
theorem y4b {x x':AV} {A:Nat->List AV->Prop} (h:x=x'):mF x A=mF x' A:=by rw [h]
theorem y7i {α:Type} {p:Prop} {r:α} {A:Prop->α->Prop} {B:Prop}:mO (some (p,r)) A B=A p r:=rfl
theorem y7j {α:Type} {A:Prop->α->Prop} {B:Prop}:mO none A B=B:=rfl
theorem y7k {b:Bool} {A:Bool->Prop}:mB (.bool b) A=A b:=rfl
theorem mF_fn {g:Nat} {cap:List AV} {A:Nat->List AV->Prop}:mF (.fn g cap) A=A g cap:=rfl
section
variable (P:Program) (N:Nat) (ops:Array Oper) (fr:Fr) (H:Hp) (Q:Exit->Fr->Hp->Prop) (K:Fr->Hp->Prop)
def ynm (o:Oper):Option (Prop×Fr×Hp):=match o.op with
 | .store t x y=>(stF P H t (evA fr x) (evA fr y)).map fun q=>(q.1,fput fr o.dst .any,hset H q.2.1 q.2.2)
 | .mapUpdate t m k x=>(muF P H t (evA fr m) (evA fr k) (evA fr x)).map fun q=>(True,fput fr o.dst .any,hset H q.1 q.2)
 | .call c=>match c.callee with
   | .builtin .append=>match c.args.toList,c.argTypes.toList with
     |[s,x],[t,t']=>(apF P fr H t (evA fr s) (evA fr x)).map fun q=>(t=t'/\q.1,fput q.2.2.1 o.dst q.2.1,q.2.2.2)
     |_,_=>none
   |_=>none
 |_=>none
def sO1 (o:Oper) (z:Option (Prop×Fr×Hp)):Option (Prop×AV)->Option (Prop×Fr×Hp)
 |some (p,r)=>some (p,fput fr o.dst r,H)
 |none=>z
def sO2 (o:Oper) (z:Option (Prop×Fr×Hp)):Option (Prop×AV×AObj)->Option (Prop×Fr×Hp)
 |some (p,r,ob)=>some (p,fput fr o.dst r,(hnew H,ob)::H)
 |none=>z
def yi8 (o:Oper):Option (Prop×Fr×Hp):=if cvOk P o.op=true/\dok o.dst N=true then
    sO1 fr H o (sO2 fr H o (ynm P fr H o) (alF P (hnew H) (evA fr) o.op)) (quF P H (evA fr) o.op) else none
def isCV:Op->Bool
 | .call c=>match c.callee with
   | .value _=>true
   |_=>false
 |_=>false
structure Rs (P:Program) (N:Nat) (fr:Fr) (H:Hp) (K:Fr->Hp->Prop) (o:Oper):Prop where
 out:awO P N o fr H K
theorem y4c (o:Oper) (hc:isCV o.op=false):awO P N o fr H K=mO (yi8 P N fr H o) (fun p q=>p/\K q.1 q.2) (Rs P N fr H K o):=by
 have hS:Rs P N fr H K o=awO P N o fr H K:=propext ⟨fun h=>h.out,fun h=>⟨h⟩⟩;have hX:(dok o.dst N=true)->awX P N o fr H K=mO (ynm P fr H o) (fun p q=>p/\K q.1 q.2) (awX P N o fr H K):=by
  intro hd;unfold awX ynm;revert hc;generalize o.op=op;intro hc;cases op<;>try rfl
  case store t x y=>
   simp only;rcases stF P H t (evA fr x) (evA fr y) with _|⟨p,i,ob⟩
   ·rfl
   ·simp [mO,hd]
  case mapUpdate t m k x=>
   simp only;rcases muF P H t (evA fr m) (evA fr k) (evA fr x) with _|⟨i,ob⟩
   ·rfl
   ·simp [mO,hd]
  case call c=>
   obtain ⟨callee,args,ts⟩:=c;cases callee<;>try rfl
   case builtin b=>
    cases b<;>try rfl
    generalize hl:args.toList=l1;generalize hm:ts.toList=l2;simp only [hl,hm]
    match l1,l2 with
    |[s,x],[t,t']=>
     simp only;rcases apF P fr H t (evA fr s) (evA fr x) with _|⟨p,r,fr',H'⟩
     ·simp [mO]
     ·simp [mO,hd,and_assoc]
    |[],_=>rfl
    |[_],_=>rfl
    |_::_::_::_,_=>rfl
    |[_,_],[]=>rfl
    |[_,_],[_]=>rfl
    |[_,_],_::_::_::_=>rfl
 rw [hS];by_cases h1:cvOk P o.op=true/\dok o.dst N=true
 ·have aZ:yi8 P N fr H o=sO1 fr H o (sO2 fr H o (ynm P fr H o) (alF P (hnew H) (evA fr) o.op)) (quF P H (evA fr) o.op):=by unfold yi8;rw [zzJ h1]
  rw [aZ];unfold awO;rcases quF P H (evA fr) o.op with _|⟨p,r⟩
  ·rcases alF P (hnew H) (evA fr) o.op with _|⟨p,r,ob⟩
   ·simp only [sO1,sO2,h1.1,true_and];exact hX h1.2
   ·simp [sO1,sO2,mO,h1.1,h1.2]
  ·simp [sO1,mO,h1.1,h1.2]
 ·have aZ:yi8 P N fr H o=none:=by unfold yi8;rw [zzI h1]
  rw [aZ];rfl
structure IC (P:Program) (N:Nat) (ops:Array Oper) (d:Option Nat) (r:List Oper) (fr:Fr) (H:Hp) (K:Fr->Hp->Prop) (g:Nat) (xs:List AV):Prop where
 out:aL P g xs fr H fun x fr' H'=>awL P N ops r (fput fr' d x) H' K
structure qD (P:Program) (N:Nat) (ops:Array Oper) (fr:Fr) (H:Hp) (K:Fr->Hp->Prop) (o:Oper) (r:List Oper):Prop where
 out:awO P N o fr H fun fr' H'=>awL P N ops r fr' H' K
def awLn (o:Oper) (r:List Oper):Prop:=match o.op with
 | .call {callee:= .value f,args:=args, .. }=>mF (evA fr f) fun g cap=>dok o.dst N=true/\IC P N ops o.dst r fr H K g (args.toList.map (evA fr)++cap)
 |_=>mO (yi8 P N fr H o) (fun p q=>p/\awL P N ops r q.1 q.2 K) (qD P N ops fr H K o r)
theorem S9 (o:Oper) (r:List Oper):(awO P N o fr H fun fr' H'=>awL P N ops r fr' H' K)=awLn P N ops fr H K o r:=by
 by_cases hc:isCV o.op=false
 ·rw [y4c _ _ _ _ _ _ hc];have hS:Rs P N fr H (fun fr' H'=>awL P N ops r fr' H' K) o=qD P N ops fr H K o r:=propext ⟨fun h=>⟨h.out⟩,fun h=>⟨h.out⟩⟩;rw [hS];unfold awLn;revert hc;generalize KM:o.op=op;intro hc;cases op<;>try rfl
  case call c=>
   obtain ⟨callee,args,ts⟩:=c;cases callee<;>first|rfl|(simp [isCV] at hc)
 ·unfold awLn;cases KM:o.op with
  |call c=>
   obtain ⟨callee,args,ts⟩:=c;cases callee with
   |value f=>
    unfold awO awX;simp only [KM,cvOk,true_and,quF,opF,alF];unfold mF;cases evA fr f<;>first|rfl|(simp only [eq_iff_iff];exact ⟨fun h=>⟨h.1,⟨h.2⟩⟩,fun h=>⟨h.1,h.2.out⟩⟩)
   |_=>rw [KM] at hc;simp [isCV] at hc
  |_=>rw [KM] at hc;simp [isCV] at hc
def pk (c b:Bool) (o:Oper) (r:List Oper) (j:Nat):Prop:=(c=b->awLn P N ops (gput ops fr j b) H K o r)/\(c= !b->dok o.dst N=true/\awL P N ops r (fput (gput ops fr j (!b)) o.dst (.tup [])) H K)
theorem y7l (o:Oper) (r:List Oper) (j:Nat):pk P N ops fr H K true true o r j=awLn P N ops (gput ops fr j true) H K o r:=by simp [pk]
theorem y7m (o:Oper) (r:List Oper) (j:Nat):pk P N ops fr H K false false o r j=awLn P N ops (gput ops fr j false) H K o r:=by simp [pk]
theorem y7n (o:Oper) (r:List Oper) (j:Nat):pk P N ops fr H K true false o r j=(dok o.dst N=true/\awL P N ops r (fput (gput ops fr j true) o.dst (.tup [])) H K):=by simp [pk]
theorem y7o (o:Oper) (r:List Oper) (j:Nat):pk P N ops fr H K false true o r j=(dok o.dst N=true/\awL P N ops r (fput (gput ops fr j false) o.dst (.tup [])) H K):=by simp [pk]
def lG (b:Bool) (o:Oper) (r:List Oper) (j:Nat) (c:Bool):Prop:=pk P N ops fr H K c b o r j
def lZ (o:Oper) (r:List Oper) (_:Unit):Prop:=dok o.dst N=true/\awL P N ops r (fput fr o.dst (.tup [])) H K
theorem lG_eq (b:Bool) (o:Oper) (r:List Oper) (j:Nat) (c:Bool):lG P N ops fr H K b o r j c=pk P N ops fr H K c b o r j:=rfl
theorem lZ_eq (o:Oper) (r:List Oper) (u:Unit):lZ P N ops fr H K o r u=(dok o.dst N=true/\awL P N ops r (fput fr o.dst (.tup [])) H K):=rfl
def awLg (o:Oper) (r:List Oper):Prop:=match o.guard with
 |none=>awLn P N ops fr H K o r
 |some (j,b)=>mG (gval ops fr j) (lG P N ops fr H K b o r j) (lZ P N ops fr H K o r)
theorem y7p:awL P N ops [] fr H K=K fr H:=rfl
theorem y4d (o:Oper) (r:List Oper):awL P N ops (o::r) fr H K=awLg P N ops fr H K o r:=by
 unfold awLg mG lG lZ pk;simp only [awL];rcases o.guard with _|⟨j,b⟩
 ·exact S9 P N ops fr H K o r
 ·simp only;rcases gval ops fr j with _|_|_|_|_|(_|_)|_|_|_|_|_|_|_<;>first|rfl|(simp only [sY,S9])
def DN (b:Bool) (x y:Code):Prop:=(b=true->awC P N x fr H Q)/\(b=false->awC P N y fr H Q)
theorem y7q (x y:Code):DN P N fr H Q true x y=awC P N x fr H Q:=by simp [DN]
theorem y7r (x y:Code):DN P N fr H Q false x y=awC P N y fr H Q:=by simp [DN]
theorem y4e:awC P N .skip fr H Q=Q .normal fr H:=rfl
theorem y4f (i:Nat):awC P N (.region i ops false) fr H Q=Ik P N ops fr H (Q .normal):=rfl
theorem y4g (i:Nat):awC P N (.region i ops true) fr H Q=ba P N i ops fr H Q:=rfl
theorem y7s (x y:Code):awC P N (.seq x y) fr H Q=awC P N x fr H (ykz Q fun fr' H'=>qj P N y fr' H' Q):=rfl
theorem y4h (c:Operand) (x y:Code):awC P N (.cond c x y) fr H Q=mB (evA fr c) fun b=>DN P N fr H Q b x y:=by
 unfold mB DN;simp only [awC];cases evA fr c<;>first|rfl|(simp only [sY,Bool.not_true])
theorem yzi (i:Nat) (c:Code):awC P N (.block i c) fr H Q=awC P N c fr H (yfv i Q):=rfl
theorem y4i (c:Code):awC P N (.loop c) fr H Q=cN P N c fr H Q:=rfl
theorem y4j (i:Nat):awC P N (.exit i) fr H Q=Q (.exit i) fr H:=rfl
theorem y7t:awC P N .ret fr H Q=Q .ret fr H:=rfl
theorem yzj (l):awC P N (.label l) fr H Q=Q .normal fr H:=rfl
end
attribute [congr] y39 y4a y4b
attribute [go_sem] y7h yaae lG_eq lZ_eq y7i y7j y7k mF_fn ynm sO1 sO2 yi8 isCV awLn y7l y7m y7n y7o y7q y7r awLg y7p y4d y4e y4f y4g y7s y4h yzi y4i y4j y7t yzj
section
variable {P:Program} {N:Nat} {fr fr':Fr} {H H':Hp}
theorem yzk {o:Oper} {K:Fr->Hp->Prop} (h1:fr=fr') (h2:H=H'):awO P N o fr H K=awO P N o fr' H' K:=by rw [h1,h2]
theorem yzl {o:Oper} {K:Fr->Hp->Prop} (h1:fr=fr') (h2:H=H'):awX P N o fr H K=awX P N o fr' H' K:=by rw [h1,h2]
theorem yzm {ops:Array Oper} {r:List Oper} {K:Fr->Hp->Prop} (h1:fr=fr') (h2:H=H'):awL P N ops r fr H K=awL P N ops r fr' H' K:=by rw [h1,h2]
theorem yzn {ops:Array Oper} {K:Fr->Hp->Prop} (h1:fr=fr') (h2:H=H'):Ik P N ops fr H K=Ik P N ops fr' H' K:=by rw [h1,h2]
theorem yzo {c:Code} {Q:Exit->Fr->Hp->Prop} (h1:fr=fr') (h2:H=H'):awC P N c fr H Q=awC P N c fr' H' Q:=by rw [h1,h2]
theorem yzp {c:Code} {Q:Exit->Fr->Hp->Prop} (h1:fr=fr') (h2:H=H'):qj P N c fr H Q=qj P N c fr' H' Q:=by rw [h1,h2]
theorem yuh {c:Code} {Q:Exit->Fr->Hp->Prop} (h1:fr=fr') (h2:H=H'):cN P N c fr H Q=cN P N c fr' H' Q:=by rw [h1,h2]
theorem yui {id:Nat} {ops:Array Oper} {Q:Exit->Fr->Hp->Prop} (h1:fr=fr') (h2:H=H'):ba P N id ops fr H Q=ba P N id ops fr' H' Q:=by rw [h1,h2]
theorem yuj {e:Exit} {Q:Exit->Fr->Hp->Prop} {K:Fr->Hp->Prop} (h1:fr=fr') (h2:H=H'):ykz Q K e fr H=ykz Q K e fr' H':=by rw [h1,h2]
theorem you {id:Nat} {e:Exit} {Q:Exit->Fr->Hp->Prop} (h1:fr=fr') (h2:H=H'):yfv id Q e fr H=yfv id Q e fr' H':=by rw [h1,h2]
theorem yxq {rs:List ResultVar} {K:AV->Fr->Hp->Prop} {e:Exit} (h1:fr=fr') (h2:H=H'):retI P rs K e fr H=retI P rs K e fr' H':=by rw [h1,h2]
end
attribute [congr] y38 yy3 yue yuf yzk yzl yzm yzn yzo yzp yuh yui yuj you yxq
attribute [go_sem] y91
section
variable {P:Program} {B:Nat} {w0:nN} {Mx:Nat->Prop} {N:Nat} {w:World} {ρ:Nat->Addr} {fr:Fr} {H:Hp} {a:Act}
theorem aK.congr (h:aK B w0 Mx N w ρ fr H a) {fr':Fr} {H':Hp} (hf: ∀t,fget fr' t=fget fr t) (hh: ∀i,hget H' i=hget H i):aK B w0 Mx N w ρ fr' H' a:=by
 have eM:MM Mx H' ρ=MM Mx H ρ:=by funext b;unfold MM;simp only [hh]
 have eD:DD H'=DD H:=by funext b;unfold DD;simp only [hh]
 exact ⟨h.below,h.hB,h.mx,fun id o g=>h.own id o (by rw [<-hh];exact g),fun id o g=>by rw [eM,eD];exact h.objs id o (by rw [<-hh];exact g),fun id o bY o' g1 g2 g3 g4=>h.inj id o bY o' (by rw [<-hh];exact g1) g2 (by rw [<-hh];exact g3) g4,fun t=>by rw [eM,eD,hf];exact h.frv t,h.defers,h.size⟩
theorem aK.F3 (h:aK B w0 Mx N w ρ fr H a) {fr':Fr} (hf: ∀t,fget fr' t= .any\/fget fr' t=fget fr t):aK B w0 Mx N w ρ fr' H a:=
 ⟨h.below,h.hB,h.mx,h.own,h.objs,h.inj,fun t=>by
  rcases hf t with e|e
  ·rw [e];exact .any _
  ·rw [e];exact h.frv t,h.defers,h.size⟩
theorem aK.Cr (h:aK B w0 Mx N w ρ fr H a) {fr':Fr} (hf: ∀t,VR w (MM Mx H ρ) ρ (DD H) (gv w0 a t) (fget fr' t)):aK B w0 Mx N w ρ fr' H a:=
 ⟨h.below,h.hB,h.mx,h.own,h.objs,h.inj,hf,h.defers,h.size⟩
theorem aK.sub (h:aK B w0 Mx N w ρ fr H a) {H':Hp} (hH: ∀i o,hget H' i=some o->hget H i=some o) (hO: ∀i o,hget H' i=some o->sO H' o=true) {fr':Fr} (hf: ∀t,fget fr' t= .any\/(fget fr' t=fget fr t/\s3 H' (fget fr' t)=true)):
  ∃My:Nat->Prop,MM My H' ρ=MM Mx H ρ/\aK B w0 My N w ρ fr' H' a:=by
 let My:Nat->Prop:=fun b=>MM Mx H ρ b/\ ¬ ∃i o,hget H' i=some o/\o.live=true/\(ρ i).block=b
 have hM:MM My H' ρ=MM Mx H ρ:=by
  funext b;apply propext;constructor
  ·rintro (h1|⟨i,o,h1,h2,h3⟩)
   ·exact h1.1
   ·exact .inr ⟨i,o,hH i o h1,h2,h3⟩
  ·intro hb;by_cases hx: ∃i o,hget H' i=some o/\o.live=true/\(ρ i).block=b
   ·exact .inr hx
   ·exact .inl ⟨hb,hx⟩
 refine ⟨My,hM,h.below,h.hB,fun b hb=>h.oR b hb.1,fun i o h1 h2=>⟨(h.own i o (hH i o h1) h2).1,fun hh=>hh.2 ⟨i,o,h1,h2,rfl⟩⟩,fun i o h1=>?_,fun i o i' o' h1 h2 h3 h4 h5=>h.inj i o i' o' (hH _ _ h1) h2 (hH _ _ h3) h4 h5,fun t=>?_,h.defers,h.size⟩
 ·rw [hM];have hr:=h.objs i o (hH i o h1);have oV:=hO i o h1;cases o with
  |gone=>trivial
  |cells t c=>
   obtain ⟨k1,arr,k2,k3,k4⟩:=hr;refine ⟨k1,arr,k2,k3,fun j hj=>?_⟩;obtain ⟨u,hu,hv⟩:=k4 j hj;refine ⟨u,hu,?_⟩;cases c with
   |ints l=>exact hv.cE rfl
   |bools l=>exact hv.cE rfl
   |lst l=>
    simp only [Cs.len] at hj;simp only [Cs.get,zzB,zzH hj,Option.getD_some] at hv⊢;exact hv.vi (List.all_eq_true.1 oV _ (List.getElem_mem hj))
  |gmap t ck l=>
   obtain ⟨es,k1,k2,k3⟩:=hr;exact ⟨es,k1,k2,fun j e q he hl=>let ⟨g1,g2,g3⟩:=k3 j e q he hl;⟨g1,g2,g3.vi (List.all_eq_true.1 oV q (zzN hl))⟩⟩
  |iter mid s sn la=>
   obtain ⟨_,k2,k3⟩:=hr;exact ⟨Option.isSome_iff_exists.1 oV,k2,k3⟩
  |imap t l=>
   obtain ⟨k0,es,ck,k1,k2,k3⟩:=hr;exact ⟨k0,es,ck,k1,k2,fun j e k x he hl=>let ⟨g1,g2,g3⟩:=k3 j e k x he hl;⟨g1,g2.vi (List.all_eq_true.1 oV (k,x) (zzN hl)),g3⟩⟩
  |fmap t c=>exact hr
 ·rw [hM];rcases hf t with e|⟨e1,e2⟩
  ·rw [e];exact .any _
  ·exact VR.vi (D:=DD H) (by rw [e1];exact h.frv t) e2
theorem VR.laid (h:aK B w0 Mx N w ρ fr H a) {aQ:Nat} (hn:hget H aQ=none) {sZ:Obj} {o:AObj} {v:Value} {x:AV} (hv:VR w (MM Mx H ρ) ρ (DD H) v x):
  VR (w.alloc sZ) (MM Mx ((aQ,o)::H) (aR ρ aQ ⟨w.heap.size,0,none⟩)) (aR ρ aQ ⟨w.heap.size,0,none⟩) (DD ((aQ,o)::H)) v x:=by
 have kp:(w.alloc sZ).heap.size=w.heap.size+1:=by show (w.heap.push sZ).size=_;simp
 have aA: ∀id o',hget H id=some o'->id≠aQ:=fun id o' h1 h2=>by subst h2;rw [hn] at h1;cases h1
 refine hv.carry (by omega) (fun b hb hm=>⟨zP hb,?_⟩) (fun id hd=>?_)
 ·rintro (h1|⟨id,o',h1,h2,h3⟩)
  ·exact hm (.inl h1)
  ·simp only [hget] at h1
   split at h1
   ·rename_i e;subst e;rw [bQ] at h3;simp at h3;omega
   ·rename_i e;rw [ql _ _ (fun h=>e h.symm)] at h3;exact hm (.inr ⟨id,o',h1,h2,h3⟩)
 ·obtain ⟨o',Ew⟩:=hd
  have:=aA id o' Ew
  exact ⟨⟨o',by simp only [hget];rw [zzI (fun h=>this h.symm)];exact Ew⟩,ql _ _ this,fun arr t ha=>⟨arr,(zP (iW ha)).trans ha,rfl⟩⟩
end
def apG (P:Program) (aQ:Nat) (H:Hp) (t:Nat) (s x:AV):Option (Prop×AV×Option Nat×AObj):=
 match tk P t with
 | .slice e=>match tsz P e,tby P e,tze P e with
   |some es,some rb,some z=>if 0<es/\rb<=1048576/\z.length=es then
    match srcF H es x with
    |some (q,m,d)=>match s with
     | .nils=>match d with
       |some d=>some (q/\0<m/\m<=1048576, .sl es aQ 0 m,none, .cells e d)
       |none=>none
     | .sl ik id off len=>match hget H id with
       |some (.cells t' c)=>if es=ik/\t'=e/\n2E d=true then
        some (q/\off+len*es=c.len/\len+m<=1048576, .sl es aQ 0 (len+m),some id, .cells e (appO (c.drop off) d)) else none
       |_=>none
     |_=>none
    |none=>none
    else none
   |_,_,_=>none
 |_=>none
where n2E:Option Cs->Bool
 |some (.lst l)=>l.all yc3
 |_=>true
def hgo (H:Hp):Option Nat->Hp
 |none=>H
 |some id=>hset H id .gone
section
variable {P:Program} {B:Nat} {w0:nN} {Mx:Nat->Prop} {N:Nat} {w:World} {ρ:Nat->Addr} {fr:Fr} {H:Hp} {a:Act}
theorem aK.gone (h:aK B w0 Mx N w ρ fr H a) {id:Nat} {o:AObj} (hid:hget H id=some o) (hl:o.live=true):
  aK B w0 (fun b=>Mx b\/b=(ρ id).block) N w ρ fr (hset H id .gone) a/\MM (fun b=>Mx b\/b=(ρ id).block) (hset H id .gone) ρ=MM Mx H ρ/\DD (hset H id .gone)=DD H:=by
 have key: ∀i q,hget (hset H id .gone) i=some q->q.live=true->i≠id/\hget H i=some q:=fun i q h1 h2=>by
  by_cases e:id=i
  ·subst e;rw [tb hid] at h1;cases h1;cases h2
  ·rw [kk e] at h1;exact ⟨Ne.symm e,h1⟩
 have hM:MM (fun b=>Mx b\/b=(ρ id).block) (hset H id .gone) ρ=MM Mx H ρ:=by
  funext b;apply propext;constructor
  ·rintro ((h1|h1)|⟨i,q,h1,h2,h3⟩)
   ·exact .inl h1
   ·exact .inr ⟨id,o,hid,hl,h1.symm⟩
   ·exact .inr ⟨i,q,(key i q h1 h2).2,h2,h3⟩
  ·rintro (h1|⟨i,q,h1,h2,h3⟩)
   ·exact .inl (.inl h1)
   ·by_cases e:id=i
    ·subst e;exact .inl (.inr h3.symm)
    ·exact .inr ⟨i,q,by rw [kk e];exact h1,h2,h3⟩
 have hD:DD (hset H id .gone)=DD H:=by funext i;exact propext (BZ hid i)
 refine ⟨⟨h.below,h.hB,fun b hb=>?_,fun i q h1 h2=>?_,fun i q h1=>?_,fun i q i' q' h1 h2 h3 h4 h5=>h.inj i q i' q' (key i q h1 h2).2 h2 (key i' q' h3 h4).2 h4 h5,fun t=>by rw [hM,hD];exact h.frv t,h.defers,h.size⟩,hM,hD⟩
 ·rcases hb with h1|h1
  ·exact h.mx b h1
  ·rw [h1];exact (h.objs id o hid).lt hl
 ·obtain ⟨aA,g1⟩:=key i q h1 h2;exact ⟨(h.own i q g1 h2).1,fun hh=>by
   rcases hh with hh|hh
   ·exact (h.own i q g1 h2).2 hh
   ·exact aA (h.inj i q id o g1 h2 hid hl hh)⟩
 ·rw [hM,hD];by_cases e:id=i
  ·subst e;rw [tb hid] at h1;cases h1;trivial
  ·rw [kk e] at h1;exact h.objs i q h1
theorem Zy (h:aK B w0 Mx N w ρ fr H a) {aQ t ty:Nat} (hn:hget H aQ=none) {s x:AV} {u v:Value} {p:Prop} {r:AV} {g:Option Nat} {ob:AObj} (hu:VR w (MM Mx H ρ) ρ (DD H) u s) (hv:VR w (MM Mx H ρ) ρ (DD H) v x)
  (ha:apG P aQ H t s x=some (p,r,g,ob)) (hp:p): ∃z w' ρ',(Builtin.append_ #[t,t] ty #[u,v]).run P w= .ok z w'/\aK B w0 Mx N w' ρ' fr ((aQ,ob)::hgo H g) a/\VR w' (MM Mx ((aQ,ob)::hgo H g) ρ') ρ' (DD ((aQ,ob)::hgo H g)) z r:=by
 unfold apG at ha
 split at ha
 ·rename_i e hk
  have ht:=pJ hk
  split at ha
  ·rename_i es rb z h1 h2 h3
   split at ha
   ·rename_i hh
    obtain ⟨kY,vG,hz⟩:=hh;obtain ⟨i,zv,i1,i2,i3⟩:=Cg h3;obtain ⟨i',i4,i5⟩:=Nn h2;rw [i1] at i4;cases i4;obtain ⟨i',i6,i7⟩:=J1 h1;rw [i1] at i6;cases i6;have zf:zv.cells.size=es:=by have:=congrArg List.length i3;simp at this;omega
    split at ha
    ·rename_i q m d hsrc
     split at ha
     ·split at ha
      ·rename_i d
       cases ha;obtain ⟨hq,hm,iR⟩:=hp;obtain ⟨A,c,news,rfl,qv,oQ,zb,za,Bl⟩:=FD h.objs hv hsrc hq;have e:=hu.cg;subst e;obtain ⟨ad,rfl⟩: ∃ad,A=some ad:=by
        cases A with
        |none=>have:=zb rfl;omega
        |some ad=>exact ⟨ad,rfl⟩
       have Df:m*i.bytes<=281474976710656:=by
        have:m*i.bytes<=1048576*1048576:=Nat.mul_le_mul (by omega) (by omega)
        omega
       have hr:=run_append_nil (P:=P) w t ty e i zv ht i1 i2 ad m c news (by rw [i7];exact qv) (za ad rfl) hm (by omega) Df;have C8:=h.draw;simp only [iQ] at oQ;have qc:m<=grownCap w m 0 e:=by unfold grownCap;simp only [Question.cut];omega
       have pj:(news.toArray++Builtin.zeroCells zv.cells (grownCap w m 0 e-m)).size=grownCap w m 0 e*es:=by
        simp only [Array.size_append,Builtin.zeroCells,Array.size_map,Array.size_range,List.size_toArray,qv,zf];rw [<-Nat.add_mul];congr 1;omega
       have cF:=C8.ca aQ hn (news.toArray++Builtin.zeroCells zv.cells (grownCap w m 0 e-m)) e d (by rw [pj,oQ];exact Nat.mul_le_mul_right _ qc) (fun j hj=>by
        have jh:j<news.length:=by omega
        refine ⟨news[j],by rw [Array.getElem?_append_left (by simpa using jh)];simp [jh],?_⟩
        have:=Bl j news[j] (zzH jh)
        exact this.carry (w':={w with drawn:=w.drawn+1}) (zzA _) (fun _ _ hm=>⟨rfl,hm⟩) (fun id hd=>⟨hd,rfl,fun arr t ha=>⟨arr,ha,rfl⟩⟩))
       exact ⟨_,_,_,hr,cF,Ei (w:={w with drawn:=w.drawn+1}) qc (by rw [pj];exact zzA _)⟩
      ·cases ha
     ·rename_i ik id off len
      split at ha
      ·rename_i t' c ho
       split at ha
       ·rename_i hcond
        obtain ⟨rfl,rfl,ju⟩:=hcond;cases ha;obtain ⟨hq,jF,iR⟩:=hp;obtain ⟨A,cx,news,rfl,qv,oQ,zb,za,Bl⟩:=FD h.objs hv hsrc hq;obtain ⟨iw,nK,oj,C3,Db⟩:=h.objs id _ ho;obtain ⟨xN,YZ,Y4⟩:=h.gone ho rfl;have xH:hget (hset H id .gone) aQ=none:=by
         by_cases e:id=aQ
         ·subst e;rw [ho] at hn;cases hn
         ·rw [kk e];exact hn
        have dX:(c.drop off).len=len*es:=by rw [Cs.mK];omega
        have pa: ∀j u,news[j]?=some u->VR w (MM Mx H ρ) ρ (DD H) u (po d j)/\kK u:=fun j u hu=>by
         have g:=Bl j u hu;have hj:j<iQ d:=by
          have:j<news.length:=by
           rcases zzV j news.length with g|g
           ·exact g
           ·rw [zzP g] at hu;cases hu
          omega
         refine ⟨g,?_⟩;cases d with
         |none=>simp [iQ] at hj
         |some d=>
          cases d with
          |ints l=>exact g.kK rfl
          |bools l=>exact g.kK rfl
          |lst l=>
           simp only [iQ,Cs.len] at hj;have hx:=List.all_eq_true.1 ju _ (List.getElem_mem hj);simp only [po,Cs.get,zzB,zzH hj,Option.getD_some] at g;exact g.kK hx
        have sz: ∀j,j<len*es-> ∃u,nK[(ρ id).off+off+j]?=some u/\VR w (MM Mx H ρ) ρ (DD H) u ((c.drop off).get j):=fun j hj=>by
         obtain ⟨u,g1,g2⟩:=Db (off+j) (by omega);exact ⟨u,by rw [Nat.add_assoc];exact g1,by rw [Cs.pn];exact g2⟩
        cases hu with
        |sl es id off len cap hd qc arr t ad0 ha0 hb hr=>
         rw [oj] at hb;cases hb;have ph:(ρ id).add off=⟨(ρ id).block,(ρ id).off+off,none⟩:=y5 iw off;by_cases jG:len+m<=cap
         ·have hf:=VI (P:=P) (w:=w) (es:=es) (n:=m) (c:=cx) (A:=A) (news:=news) qv za zb;have GW:(ρ id).off+off+len*es+news.length<=nK.size:=by
           rw [qv]
           have:(len+m)*es<=cap*es:=Nat.mul_le_mul_right _ jG
           rw [Nat.add_mul] at this;omega
          obtain ⟨w',bw,r1,r2,r3,r4,r5,r6,r7,r8,r9⟩:=Kq (P:=P) (b:=(ρ id).block) (t:=t') (o:=(ρ id).off+off+len*es) news 0 w nK oj (by omega) (fun u hu=>by
           obtain ⟨j,hj⟩:=List.mem_iff_getElem?.1 hu;exact (pa j u hj).2)
          have xP:((ρ id).add off).add (len*es)=⟨(ρ id).block,(ρ id).off+off+len*es,none⟩:=by rw [ph,y5 rfl]
          have bd:=VH (P:=P) (w:=w) (ty:=ty) (w':=w') ht h1 ad0 len cap m cx A news hf jG (by
           by_cases wv:0<cap
           ·rw [ha0 wv,xP];exact r1
           ·have CY:news=[]:=zzQ (by rw [qv,show m=0 by omega];simp);subst CY;simp [storeCells] at r1⊢;exact r1)
          have Dg:=xN.attach (My:=Mx) (id:=aQ) (b:=(ρ id).block) (t:=t') (off:=(ρ id).off+off) (c:=appO (c.drop off) d) xH (fun x=>Iff.rfl) (h.own id _ ho rfl).2 (h.own id _ ho rfl).1 oj r2 r3 r4 r5 r6 r7 r8
           (by rw [Bb,dX,oQ,r3]
               have:(len+m)*es<=cap*es:=Nat.mul_le_mul_right _ jG
               rw [Nat.add_mul] at this;omega) (fun j hj=>by
            rw [YZ,Y4];rw [Bb,dX,oQ] at hj;rw [JZ _ _ _ (by rw [dX,oQ];exact hj),dX,r9];by_cases c1:j<len*es
            ·rw [zzJ c1,zzI (by omega)];exact sz j c1
            ·rw [zzI c1,zzJ (by omega)];have e1:(ρ id).off+off+j-((ρ id).off+off+len*es+0)=j-len*es:=by omega
             rw [e1];have aD:j-len*es<news.length:=by omega
             exact ⟨news[j-len*es],zzH aD,(pa _ _ (zzH aD)).1⟩)
          refine ⟨_,w',_,bd,Dg,?_⟩;exact VR.sl es aQ 0 (len+m) cap BW jG bw t' ad0 (fun wv=>by rw [bQ,ha0 wv,ph];rfl) (by rw [bQ];exact r2) (by rw [bQ,r3];simpa using hr)
         ·have xu: ∃iA:List Value,iA.length=len*es/\ ∀(j:Nat) (u:Value),iA[j]?=some u->w.cell? (((ρ id).add off).add j)=some u/\VR w (MM Mx H ρ) ρ (DD H) u ((c.drop off).get j):=by
           have hx: ∀j,∃u,j<len*es->w.cell? (((ρ id).add off).add j)=some u/\VR w (MM Mx H ρ) ρ (DD H) u ((c.drop off).get j):=fun j=>by
            by_cases hj:j<len*es
            ·obtain ⟨u,g1,g2⟩:=sz j hj;exact ⟨u,fun _=>⟨by rw [ph,y5 rfl];simp [World.cell?,oj,g1],g2⟩⟩
            ·exact ⟨undef,fun h=>absurd h hj⟩
           obtain ⟨g,hg⟩:=Classical.axiomOfChoice hx;refine ⟨(List.range (len*es)).map g,by simp,fun j u hu=>?_⟩;simp only [zzO] at hu;by_cases hj:j<len*es
           ·simp [List.getElem?_range hj] at hu;subst hu;exact hg j hj
           ·simp [zzP (l:=List.range (len*es)) (i:=j) (by simp;omega)] at hu
          obtain ⟨iA,o1,o2⟩:=xu;have G3:0<m:=by omega
          obtain ⟨ad,rfl⟩: ∃ad,A=some ad:=by
           cases A with
           |none=>have:=zb rfl;omega
           |some ad=>exact ⟨ad,rfl⟩
          have xJ:Builtin.nextslicecap (len+m) cap*i.bytes<=281474976710656:=growslice_fits (by omega) (by
           have:(len+m)*i.bytes<=1048576*1048576:=Nat.mul_le_mul (by omega) (by omega)
           omega)
          have nS:=run_append_grow (P:=P) w t ty t' i zv ht i1 i2 ad0 len cap iA (by rw [i7];exact o1) (fun j u hu=>by
           have nT:j<iA.length:=by
            rcases zzV j iA.length with g|g
            ·exact g
            ·rw [zzP g] at hu;cases hu
           have C3:0<len:=by
            rcases Nat.eq_zero_or_pos len with e|e
            ·subst e;simp at o1;simp [o1] at nT
            ·exact e
           rw [ha0 (by omega)];exact (o2 j u hu).1) ad m cx news (by rw [i7];exact qv) (za ad rfl) (by omega) (by omega) xJ
          have sF:len+m<=grownCap w (len+m) cap t':=by unfold grownCap;simp only [Question.cut];omega
          have pj:(iA.toArray++news.toArray++Builtin.zeroCells zv.cells (grownCap w (len+m) cap t'-(len+m))).size=grownCap w (len+m) cap t'*es:=by
           simp only [Array.size_append,Builtin.zeroCells,Array.size_map,Array.size_range,List.size_toArray,qv,o1,zf];rw [<-Nat.add_mul,<-Nat.add_mul];congr 1;omega
          have C8:=(xN.allow (My:=Mx) (fun b hb=> .inl hb)).draw;have BD: ∀b,MM Mx (hset H id .gone) ρ b->MM Mx H ρ b:=fun b hb=>by rw [<-YZ];exact hb.imp .inl (fun h=>h)
          have Hy: ∀{v:Value} {x:AV},VR w (MM Mx H ρ) ρ (DD H) v x->VR {w with drawn:=w.drawn+1} (MM Mx (hset H id .gone) ρ) ρ (DD (hset H id .gone)) v x:=fun hv=>
           hv.carry (w':={w with drawn:=w.drawn+1}) (zzA _) (fun b _ hm=>⟨rfl,fun hh=>hm (BD b hh)⟩) (fun k hd=>⟨by rw [Y4];exact hd,rfl,fun arr t ha=>⟨arr,ha,rfl⟩⟩)
          have cF:=C8.ca aQ xH (iA.toArray++news.toArray++Builtin.zeroCells zv.cells (grownCap w (len+m) cap t'-(len+m))) t' (appO (c.drop off) d)
           (by rw [pj,Bb,dX,oQ,<-Nat.add_mul];exact Nat.mul_le_mul_right _ sF) (fun j hj=>by
            rw [Bb,dX,oQ] at hj;rw [JZ _ _ _ (by rw [dX,oQ];exact hj),dX];by_cases c1:j<len*es
            ·rw [zzJ c1];have aD:j<iA.length:=by omega
             exact ⟨iA[j],by rw [Array.getElem?_append_left (by simp;omega),Array.getElem?_append_left (by simpa using aD)];simp [aD],Hy (o2 j _ (zzH aD)).2⟩
            ·rw [zzI c1];have aD:j-len*es<news.length:=by omega
             exact ⟨news[j-len*es],by rw [Array.getElem?_append_left (by simp;omega),Array.getElem?_append_right (by simp;omega)];simp [o1,aD],Hy (pa _ _ (zzH aD)).1⟩)
          exact ⟨_,_,_,nS,cF,Ei (w:={w with drawn:=w.drawn+1}) sF (by rw [pj];exact zzA _)⟩
       ·cases ha
      ·cases ha
     ·cases ha
    ·cases ha
   ·cases ha
  ·cases ha
 ·cases ha
end
def yc4:Op->Bool
 | .move _| .assign _| .pick .. | .binOp .. | .unOp .. | .fieldAddr .. | .field .. | .indexAddr .. | .extract .. | .nilCheck _| .convert .. | .makeFunc .. | .build .. | .slice .. =>true
 | .call {callee:= .builtin .len, .. }| .call {callee:= .builtin .cap, .. }| .call {callee:= .builtin .min, .. }| .call {callee:= .builtin .max, .. }=>true
 |_=>false
def loud:Op->Bool
 | .store .. =>true
 | .insert .. =>true
 | .call {callee:= .builtin .append, .. }=>true
 |_=>false
def ye0:Op->Bool
 | .insert .. =>true
 |_=>false
def insO (H:Hp) (id:Nat) (n x:Int):Option AObj->Hp
 |some (.fmap t (.ints g))=>hset H id (.fmap t (.ints (updI g n x)))
 |_=>H
def insE (H:Hp) (id:Nat) (n x:Int):Hp:=insO H id n x (hget H id)
def inO (id:Nat) (n x:Int):Option AObj->Option (Prop×Nat×Int×Int)
 |some (.fmap _ (.ints g))=>some (g n=none,id,n,x)
 |_=>none
def inK (H:Hp):TK->AV->AV->AV->Option (Prop×Nat×Int×Int)
 | .int .i64, .mp id, .int .i64 n, .int .i64 x=>inO id n x (hget H id)
 |_,_,_,_=>none
def inF (P:Program) (H:Hp) (t:Nat) (m k v:AV):Option (Prop×Nat×Int×Int):=match tk P t with
 | .map kt _=>inK H (tk P kt) m k v
 |_=>none
theorem Z2 {P:Program} {H H':Hp} {ev:Operand->AV} {o:Op} (h:yc4 o=true):quF P H ev o=quF P H' ev o:=by
 cases o with
 |call c=>
  obtain ⟨callee,args,ts⟩:=c;cases callee with
  |builtin b=>cases b<;>first|rfl|cases h
  |_=>cases h
 |slice t x lo hi mx=>cases mx<;>rfl
 |makeFunc fn _ _=>cases fn<;>rfl
 |_=>first|rfl|cases h
def rL (o:Oper):List Nat:=(o.after.toList.filter fun e=>Region.binds .any e).map (·.on)
def ancs:List Oper->List (List Nat)->List (List Nat)
 |[],cL=>cL
 |o::r,cL=>ancs r (cL++[((rL o).flatMap fun i=>i::cL.getD i []).eraseDups])
def nj (ops:Array Oper):List (List Nat):=ancs ops.toList []
def cz (ex:List Nat):Fr->Fr
 |[]=>[]
 |(t,x)::r=>(t,if ex.contains t then .any else x)::cz ex r
def yav (dl:List Nat):Hp->Hp
 |[]=>[]
 |(i,o)::r=>if dl.contains i then yav dl r else (i,o)::yav dl r
theorem M5 (ex:List Nat) (fr:Fr) (t:Nat):fget (cz ex fr) t=if ex.contains t then .any else fget fr t:=by
 induction fr with
 |nil=>simp [cz,fget]
 |cons p r ih=>
  obtain ⟨s,x⟩:=p;simp only [cz,fget];by_cases h:s=t
  ·subst h;simp
  ·simp only [h,if_false];exact ih
theorem U8 (dl:List Nat) (H:Hp) (i:Nat):hget (yav dl H) i=if dl.contains i then none else hget H i:=by
 induction H with
 |nil=>simp [yav,hget]
 |cons p r ih=>
  obtain ⟨s,x⟩:=p;simp only [yav];by_cases h1:dl.contains s
  ·rw [zzJ h1,ih];by_cases h:s=i
   ·subst h;rw [zzJ h1,zzJ h1]
   ·simp [hget,h]
  ·rw [zzI h1];simp only [hget];by_cases h:s=i
   ·subst h;simp only [if_true];rw [zzI h1]
   ·simp only [h,if_false];exact ih
def pR (H:Hp):Fr->Fr
 |[]=>[]
 |(t,x)::r=>(t,if s3 H x then x else .any)::pR H r
theorem Ua (H:Hp) (fr:Fr) (t:Nat):fget (pR H fr) t= .any\/(fget (pR H fr) t=fget fr t/\s3 H (fget (pR H fr) t)=true):=by
 induction fr with
 |nil=>exact .inl rfl
 |cons p r ih=>
  obtain ⟨s,x⟩:=p;simp only [pR,fget];by_cases h:s=t
  ·subst h;simp only [if_true];by_cases h2:s3 H x=true
   ·simp [h2]
   ·simp [h2]
  ·simp only [h,if_false];exact ih
def stP:Op->Option Nat
 | .store _ (.tmp d) _=>some d
 |_=>none
def wS (ops:Array Oper) (d:Nat):Bool:=ops.toList.all fun o=>o.dst !=some d
def AX (ops:Array Oper):Option Nat->Option Nat->Bool
 |some a,some b=>a !=b&&wS ops a&&wS ops b
 |_,_=>false
def yH (ops:Array Oper) (x y:Op):Bool:=AX ops (stP x) (stP y)
def sepV:AV->AV->Bool
 | .ptr x _, .ptr y _=>x !=y
 |_,_=>false
def sep2 (fr:Fr) (a b:Nat):Bool:=a==b||sepV (fget fr a) (fget fr b)
def sepF (fr:Fr) (l:List Nat):Bool:=l.all fun a=>l.all fun b=>sep2 fr a b
def Ic (ops:Array Oper) (ex dl:List (List Nat)):Bool:=
 let cL:=nj ops
 let n:=ops.size
 (List.range n).all fun j=>(List.range n).all fun i=>(i==j||
  (let before:=(cL.getD j []).contains i
   let after:=(cL.getD i []).contains j
   (before||after||(match (ops.getD i default).dst with|some d=>(ex.getD j []).contains d|none=>true))&&
   (before|| !decide (i<j)||(dl.getD j []).contains i)&&
   (yc4 (ops.getD i default).op|| !loud (ops.getD j default).op||before||loud (ops.getD i default).op)&&
   (!loud (ops.getD i default).op|| !loud (ops.getD j default).op||before||after||(ye0 (ops.getD i default).op&&ye0 (ops.getD j default).op)||yH ops (ops.getD i default).op (ops.getD j default).op)&&
   (!ye0 (ops.getD i default).op|| !loud (ops.getD j default).op||ye0 (ops.getD j default).op)&&
   (before||after||(ops.getD i default).dst !=(ops.getD j default).dst||(ops.getD i default).dst==none)))&&(!before0 cL i j||decide (i<j))&&((rL (ops.getD j default)).all fun e=>decide (e<j))
where before0 (cL:List (List Nat)) (i j:Nat):Bool:=(cL.getD j []).contains i
def S8 (ops:Array Oper):Bool:=decide (0<ops.size)&&(ops.getD (ops.size-1) default).guard.isNone&&(List.range (ops.size-1)).all fun i=>((nj ops).getD (ops.size-1) []).contains i
def V1 (ops:Array Oper):Bool:=
 let cL:=nj ops
 (List.range ops.size).all fun j=>(List.range ops.size).all fun i=>i==j|| !yH ops (ops.getD i default).op (ops.getD j default).op||(cL.getD j []).contains i||(cL.getD i []).contains j
def awD (P:Program) (N:Nat) (ops:Array Oper) (base:Nat):Nat->List Oper->List (List Nat)->List (List Nat)->Fr->Hp->(Fr->Hp->Prop)->Prop
 |_,[],_,_,fr,H,K=>K fr H
 |_,_::_,[],_,_,_,_=>False
 |_,_::_,_::_,[],_,_,_=>False
 |j,o::r,ex::bO,dl::bP,fr,H,K=>match o.guard with
  |none=>awDO P N base j o ex dl fr H fun fr' H'=>awD P N ops base (j+1) r bO bP fr' H' K
  |some (g,b)=>match gval ops (cz ex fr) g with
   | .bool c=>sY c b (awDO P N base j o ex dl fr H fun fr' H'=>awD P N ops base (j+1) r bO bP fr' H' K) (dok o.dst N=true/\awD P N ops base (j+1) r bO bP (fput fr o.dst (.tup [])) H K)
   | .tup []=>dok o.dst N=true/\awD P N ops base (j+1) r bO bP (fput fr o.dst (.tup [])) H K
   |_=>False
where
 awDO (P:Program) (N base j:Nat) (o:Oper) (ex dl:List Nat) (fr:Fr) (H:Hp) (K:Fr->Hp->Prop):Prop:=
  cvOk P o.op=true/\dok o.dst N=true/\if yc4 o.op then (match quF P H (evA (cz ex fr)) o.op with
   |some (p,r)=>p/\K (fput fr o.dst r) H
   |none=>False)
  else match quF P (yav (dl.map (base+ ·)) H) (evA (pR (yav (dl.map (base+ ·)) H) (cz ex fr))) o.op with
   |some (p,r)=>(yav (dl.map (base+ ·)) H).all (fun q=>sO (yav (dl.map (base+ ·)) H) q.2)=true/\p/\K (fput fr o.dst r) H
   |none=>match alF P (base+j) (evA (cz ex fr)) o.op with
    |some (p,r,ob)=>p/\K (fput fr o.dst r) ((base+j,ob)::H)
    |none=>match o.op with
     | .store t x y=>match stF P H t (evA (cz ex fr) x) (evA (cz ex fr) y) with
       |some (p,id,ob)=>p/\K (fput fr o.dst .any) (hset H id ob)
       |none=>False
     | .insert t m k v=>match inF P H t (evA (cz ex fr) m) (evA (cz ex fr) k) (evA (cz ex fr) v) with
       |some (p,id,n,x)=>p/\K (fput fr o.dst .any) (insE H id n x)
       |none=>False
     | .call {callee:= .builtin .append,args:=args,argTypes:=ts}=>match args.toList,ts.toList with
       |[s,x],[t,t']=>t=t'/\match apG P (base+j) H t (evA (cz ex fr) s) (evA (cz ex fr) x) with
        |some (p,r,g,ob)=>p/\K (fput fr o.dst r) ((base+j,ob)::hgo H g)
        |none=>False
       |_,_=>False
     | .call {callee:= .value f,args:=args, .. }=>match evA (pR (yav (dl.map (base+ ·)) H) (cz ex fr)) f with
       | .fn g cap=>(yav (dl.map (base+ ·)) H).all (fun q=>sO (yav (dl.map (base+ ·)) H) q.2)=true/\EO P g (args.toList.map (evA (pR (yav (dl.map (base+ ·)) H) (cz ex fr)))++cap) (yav (dl.map (base+ ·)) H) (base+j) (fun r=>K (fput fr o.dst r) H) (fun r ob=>K (fput fr o.dst r) ((base+j,ob)::H))
       |_=>False
     |_=>False
inductive Ent where
 |skip
 |quiet (r:AV)
 |alloc (r:AV) (ob:AObj)
 |store (id:Nat) (ob:AObj)
 |app (r:AV) (g:Option Nat) (ob:AObj)
 |ins (id:Nat) (n x:Int)
def Ent.vm:Ent->Bool
 | .store .. | .app .. | .ins .. =>true
 |_=>false
def Ent.val:Ent->AV
 | .skip=> .tup []
 | .quiet r=>r
 | .alloc r _=>r
 | .app r _ _=>r
 |_=> .any
def Ent.eff (aQ:Nat) (H:Hp):Ent->Hp
 | .alloc _ ob=>(aQ,ob)::H
 | .store id ob=>hset H id ob
 | .app _ g ob=>(aQ,ob)::hgo H g
 | .ins id n x=>insE H id n x
 |_=>H
theorem Z1 {P:Program} {f:Nat} {xs:List AV} {H:Hp} {K:AV->Prop} (h:bS P f xs H K): ∃r,bS P f xs H (· =r)/\K r:=by
 unfold bS at h⊢
 split at h
 ·rename_i hp;obtain ⟨r,h1,h2⟩:=h;exact ⟨r,by rw [zzJ hp];exact ⟨r,h1,rfl⟩,h2⟩
 ·rename_i hp;obtain ⟨h0,r,h1,h3⟩:=h;exact ⟨r,by rw [zzI hp];exact ⟨h0,r,h1,rfl⟩,h3⟩
section
variable (P:Program) (N:Nat) (ops:Array Oper) (base:Nat) (ex dl:List (List Nat))
def cK (j:Nat):List Nat:=ex.getD j []
def ff (j:Nat):List Nat:=(dl.getD j []).map (base+ ·)
def BV (o:Oper) (fw:Fr):Prop:=o.guard=none\/ ∃g b,o.guard=some (g,b)/\gval ops fw g= .bool b
def yG (j:Nat) (o:Oper) (fr:Fr) (H:Hp):Ent->Prop
 | .skip=> ∃g b,o.guard=some (g,b)/\(gval ops (cz (cK ex j) fr) g= .bool (!b)\/gval ops (cz (cK ex j) fr) g= .tup [])
 | .quiet r=>BV ops o (cz (cK ex j) fr)/\cvOk P o.op=true/\
   ((yc4 o.op=true/\ ∃p,quF P H (evA (cz (cK ex j) fr)) o.op=some (p,r)/\p)\/
    (yc4 o.op=false/\loud o.op=false/\(yav (ff base dl j) H).all (fun q=>sO (yav (ff base dl j) H) q.2)=true/\
     ((∃p,quF P (yav (ff base dl j) H) (evA (pR (yav (ff base dl j) H) (cz (cK ex j) fr))) o.op=some (p,r)/\p)\/
      ∃f args ts g cap,o.op= .call {callee:= .value f,args:=args,argTypes:=ts}/\evA (pR (yav (ff base dl j) H) (cz (cK ex j) fr)) f= .fn g cap/\
       bS P g (args.toList.map (evA (pR (yav (ff base dl j) H) (cz (cK ex j) fr)))++cap) (yav (ff base dl j) H) (· =r))))
 | .alloc r ob=>BV ops o (cz (cK ex j) fr)/\yc4 o.op=false/\loud o.op=false/\((∃p,alF P (base+j) (evA (cz (cK ex j) fr)) o.op=some (p,r,ob)/\p)\/((yav (ff base dl j) H).all (fun q=>sO (yav (ff base dl j) H) q.2)=true/\
   ∃f args ts g cap,o.op= .call {callee:= .value f,args:=args,argTypes:=ts}/\evA (pR (yav (ff base dl j) H) (cz (cK ex j) fr)) f= .fn g cap/\
    Lp P g (args.toList.map (evA (pR (yav (ff base dl j) H) (cz (cK ex j) fr)))++cap) (yav (ff base dl j) H) (base+j) (fun r' rU=>r'=r/\rU=ob)))
 | .store id ob=>BV ops o (cz (cK ex j) fr)/\yc4 o.op=false/\loud o.op=true/\ ∃t x y p,o.op= .store t x y/\stF P H t (evA (cz (cK ex j) fr) x) (evA (cz (cK ex j) fr) y)=some (p,id,ob)/\p
 | .app r g ob=>BV ops o (cz (cK ex j) fr)/\yc4 o.op=false/\loud o.op=true/\ ∃s x t p,o.op= .call {callee:= .builtin .append,args:= #[s,x],argTypes:= #[t,t]}/\apG P (base+j) H t (evA (cz (cK ex j) fr) s) (evA (cz (cK ex j) fr) x)=some (p,r,g,ob)/\p
 | .ins id n x=>BV ops o (cz (cK ex j) fr)/\yc4 o.op=false/\loud o.op=true/\ ∃t m k v p,o.op= .insert t m k v/\inF P H t (evA (cz (cK ex j) fr) m) (evA (cz (cK ex j) fr) k) (evA (cz (cK ex j) fr) v)=some (p,id,n,x)/\p
variable (es:Nat->Ent)
def jK (i:Nat):Option Nat:=(ops.getD i default).dst
def frS (fr0:Fr) (E:Nat->Bool):Nat->Fr
 |0=>fr0
 |k+1=>if E k then fput (frS fr0 E k) (jK ops k) (es k).val else frS fr0 E k
def hS (H0:Hp) (E:Nat->Bool):Nat->Hp
 |0=>H0
 |k+1=>if E k then (es k).eff (base+k) (hS H0 E k) else hS H0 E k
end
section
variable {P:Program} {N:Nat} {ops:Array Oper} {base:Nat} {ex dl:List (List Nat)} {es:Nat->Ent} {fr0:Fr} {H0:Hp}
theorem J2 {E E':Nat->Bool} {t:Nat}: ∀k,(∀i,i<k->jK ops i=some t->E i=E' i)->fget (frS ops es fr0 E k) t=fget (frS ops es fr0 E' k) t
 |0,_=>rfl
 |k+1,h=>by
  have ih:=J2 k fun i hi hd=>h i (by omega) hd;simp only [frS];by_cases hd:jK ops k=some t
  ·rw [h k (by omega) hd,hd]
   split
   ·simp [fput,fget]
   ·exact ih
  ·have aA: ∀(fr:Fr) (x:AV),fget (fput fr (jK ops k) x) t=fget fr t:=fun fr x=>by
    cases hk:jK ops k with
    |none=>rfl
    |some d=>simp only [fput,fget];rw [zzI (fun e=>hd (by rw [hk,e]))]
   split<;>split<;>simp only [aA,ih]
theorem Ru {j:Nat} {E:Nat->Bool} (hE: ∀i,E i=decide (i<j)): ∀k,j<=k->frS ops es fr0 E k=frS ops es fr0 (fun _=>true) j:=by
 have h1: ∀k,k<=j->frS ops es fr0 E k=frS ops es fr0 (fun _=>true) k:=by
  intro k
  induction k with
  |zero=>intro _;rfl
  |succ k ih=>intro hk;simp only [frS,hE k,ih (by omega)];simp [show k<j by omega]
 intro k hk
 induction k with
 |zero=>have:j=0:=by omega
        subst this;rfl
 |succ k ih=>
  by_cases hj:j=k+1
  ·subst hj;exact h1 _ (zzA _)
  ·simp only [frS,hE k];rw [zzI (by simp;omega)];exact ih (by omega)
theorem Ec {E E':Nat->Bool}: ∀k,(∀i,i<k->(∀H,(es i).eff (base+i) H=H)\/E i=E' i)->hS base es H0 E k=hS base es H0 E' k
 |0,_=>rfl
 |k+1,h=>by
  have ih:=Ec k fun i hi=>h i (by omega);simp only [hS];rcases h k (by omega) with h1|h1
  ·simp only [h1,ih];split<;>split<;>rfl
  ·rw [h1,ih]
theorem Ln {j:Nat} {E:Nat->Bool} (hE: ∀i,E i=decide (i<j)): ∀k,j<=k->hS base es H0 E k=hS base es H0 (fun _=>true) j:=by
 have h1: ∀k,k<=j->hS base es H0 E k=hS base es H0 (fun _=>true) k:=by
  intro k
  induction k with
  |zero=>intro _;rfl
  |succ k ih=>intro hk;simp only [hS,hE k,ih (by omega)];simp [show k<j by omega]
 intro k hk
 induction k with
 |zero=>have:j=0:=by omega
        subst this;rfl
 |succ k ih=>
  by_cases hj:j=k+1
  ·subst hj;exact h1 _ (zzA _)
  ·simp only [hS,hE k];rw [zzI (by simp;omega)];exact ih (by omega)
def isAl:Ent->Option AObj
 | .alloc _ ob=>some ob
 |_=>none
theorem AW {E:Nat->Bool} (hb: ∀i,base<=i->hget H0 i=none): ∀k,(∀i,i<k->E i=true->(es i).vm=false)-> ∀id,hget (hS base es H0 E k) id=
  (if base<=id/\id-base<k/\E (id-base)=true/\(isAl (es (id-base))).isSome=true then isAl (es (id-base)) else hget H0 id)
 |0,_,id=>by simp [hS]
 |k+1,h,id=>by
  have ih:=AW hb k (fun i hi=>h i (by omega)) id;simp only [hS];by_cases hE:E k=true
  ·rw [zzJ hE];have wj:=h k (by omega) hE;cases hk:es k with
   |store bY ob=>rw [hk] at wj;cases wj
   |app r g ob=>rw [hk] at wj;cases wj
   |ins id n x=>rw [hk] at wj;cases wj
   |alloc r ob=>
    simp only [Ent.eff,hget];by_cases e:base+k=id
    ·subst e;rw [zzJ rfl,zzJ ⟨by omega,by omega,by rw [Nat.add_sub_cancel_left];exact hE,by rw [Nat.add_sub_cancel_left,hk];rfl⟩,Nat.add_sub_cancel_left,hk];rfl
    ·rw [zzI e,ih];by_cases c:base<=id/\id-base<k/\E (id-base)=true/\(isAl (es (id-base))).isSome=true
     ·rw [zzJ c,zzJ ⟨c.1,by omega,c.2.2⟩]
     ·rw [zzI c,zzI (fun c'=>c ⟨c'.1,by omega,c'.2.2⟩)]
   |skip=>
    simp only [Ent.eff];rw [ih];by_cases c:base<=id/\id-base<k/\E (id-base)=true/\(isAl (es (id-base))).isSome=true
    ·rw [zzJ c,zzJ ⟨c.1,by omega,c.2.2⟩]
    ·rw [zzI c,zzI (fun c'=>by
      by_cases e:id-base=k
      ·rw [e,hk] at c';simp [isAl] at c'
      ·exact c ⟨c'.1,by omega,c'.2.2⟩)]
   |quiet r=>
    simp only [Ent.eff];rw [ih];by_cases c:base<=id/\id-base<k/\E (id-base)=true/\(isAl (es (id-base))).isSome=true
    ·rw [zzJ c,zzJ ⟨c.1,by omega,c.2.2⟩]
    ·rw [zzI c,zzI (fun c'=>by
      by_cases e:id-base=k
      ·rw [e,hk] at c';simp [isAl] at c'
      ·exact c ⟨c'.1,by omega,c'.2.2⟩)]
  ·rw [zzI hE,ih];by_cases c:base<=id/\id-base<k/\E (id-base)=true/\(isAl (es (id-base))).isSome=true
   ·rw [zzJ c,zzJ ⟨c.1,by omega,c.2.2⟩]
   ·rw [zzI c,zzI (fun c'=>by
     by_cases e:id-base=k
     ·rw [e] at c';exact hE c'.2.2.1
     ·exact c ⟨c'.1,by omega,c'.2.2⟩)]
def rI (ops:Array Oper) (es:Nat->Ent) (j:Nat) (fr:Fr):Nat->Fr
 |0=>fr
 |d+1=>rI ops es (j+1) (fput fr (jK ops j) (es j).val) d
def hI (base:Nat) (es:Nat->Ent) (j:Nat) (H:Hp):Nat->Hp
 |0=>H
 |d+1=>hI base es (j+1) ((es j).eff (base+j) H) d
theorem M4 {K:Fr->Hp->Prop}: ∀(n j:Nat) (fr:Fr) (H:Hp),j+n<=ops.size->ex.length=ops.size->dl.length=ops.size->awD P N ops base j ((ops.toList.drop j).take n) (ex.drop j) (dl.drop j) fr H K->
  ∃es:Nat->Ent,(∀d,d<n->dok (jK ops (j+d)) N=true/\ ∃fr' H',rI ops es j fr d=fr'/\hI base es j H d=H'/\yG P ops base ex dl (j+d) (ops.getD (j+d) default) fr' H' (es (j+d)))/\K (rI ops es j fr n) (hI base es j H n)
 |0,j,fr,H,hj,_,_,h=>by
  simp only [List.take_zero,awD] at h;exact ⟨fun _=> .skip,fun d hd=>by omega,h⟩
 |n+1,j,fr,H,hj,hex,Qn,h=>by
  have aD:j<ops.size:=by omega
  have hget:ops.getD j default=ops[j]:=by simp [aD]
  have oU:ex[j]'(by omega)=cK ex j:=by simp [cK,show j<ex.length by omega]
  have YN:(dl[j]'(by omega)).map (base+ ·)=ff base dl j:=by simp [ff,show j<dl.length by omega]
  rw [List.drop_eq_getElem_cons (by simpa using aD),List.drop_eq_getElem_cons (l:=ex) (by omega),List.drop_eq_getElem_cons (l:=dl) (by omega)] at h;simp only [List.take_succ_cons,awD,Array.getElem_toList] at h
  have kD: ∀(e:Ent),dok (ops[j]).dst N=true->yG P ops base ex dl j ops[j] fr H e->awD P N ops base (j+1) ((ops.toList.drop (j+1)).take n) (ex.drop (j+1)) (dl.drop (j+1)) (fput fr (ops[j]).dst e.val) (e.eff (base+j) H) K->
   ∃es:Nat->Ent,(∀d,d<n+1->dok (jK ops (j+d)) N=true/\ ∃fr' H',rI ops es j fr d=fr'/\hI base es j H d=H'/\yG P ops base ex dl (j+d) (ops.getD (j+d) default) fr' H' (es (j+d)))/\K (rI ops es j fr (n+1)) (hI base es j H (n+1)):=fun e qW he hr=>by
   obtain ⟨es,h1,h2⟩:=M4 n (j+1) _ _ (by omega) hex Qn hr;have dW: ∀d (fr:Fr) (H:Hp),rI ops (fun i=>if i=j then e else es i) (j+1) fr d=rI ops es (j+1) fr d/\hI base (fun i=>if i=j then e else es i) (j+1) H d=hI base es (j+1) H d:=by
    have gen: ∀d s (fr:Fr) (H:Hp),j<s->rI ops (fun i=>if i=j then e else es i) s fr d=rI ops es s fr d/\hI base (fun i=>if i=j then e else es i) s H d=hI base es s H d:=by
     intro d
     induction d with
     |zero=>intro s fr H _;exact ⟨rfl,rfl⟩
     |succ d ih=>intro s fr H hs;simp only [rI,hI,show s≠j by omega,if_false];exact ih (s+1) _ _ (by omega)
    exact fun d fr H=>gen d (j+1) fr H (by omega)
   have kq:jK ops j=(ops[j]).dst:=by simp [jK,aD]
   refine ⟨fun i=>if i=j then e else es i,fun d hd=>?_,?_⟩
   ·cases d with
    |zero=>exact ⟨by rw [Nat.add_zero,kq];exact qW,fr,H,rfl,rfl,by simpa [aD] using he⟩
    |succ d=>
     obtain ⟨g1,fr',H',g2,g3,g4⟩:=h1 d (by omega);have ea:j+1+d=j+(d+1):=by omega
     rw [ea] at g1 g4;refine ⟨g1,fr',H',?_,?_,?_⟩
     ·simp only [rI,if_true,kq,(dW d _ H).1];exact g2
     ·simp only [hI,if_true,(dW d fr _).2];exact g3
     ·simpa [show j+(d+1)≠j by omega] using g4
   ·simp only [rI,hI,if_true,kq,(dW n _ H).1,(dW n fr _).2];exact h2
  have YM:BV ops ops[j] (cz (cK ex j) fr)->awD.awDO P N base j ops[j] (ex[j]'(by omega)) (dl[j]'(by omega)) fr H (fun fr' H'=>awD P N ops base (j+1) ((ops.toList.drop (j+1)).take n) (ex.drop (j+1)) (dl.drop (j+1)) fr' H' K)->
   ∃es:Nat->Ent,(∀d,d<n+1->dok (jK ops (j+d)) N=true/\ ∃fr' H',rI ops es j fr d=fr'/\hI base es j H d=H'/\yG P ops base ex dl (j+d) (ops.getD (j+d) default) fr' H' (es (j+d)))/\K (rI ops es j fr (n+1)) (hI base es j H (n+1)):=fun hw hq=>by
   unfold awD.awDO at hq;obtain ⟨rE,qW,hq⟩:=hq;rw [oU,YN] at hq
   split at hq
   ·rename_i mM
    split at hq
    ·rename_i p r uG
     exact kD (.quiet r) qW ⟨hw,rE, .inl ⟨mM,p,uG,hq.1⟩⟩ hq.2
    ·exact hq.elim
   ·rename_i mM
    have oW:yc4 (ops[j]).op=false:=by simpa using mM
    split at hq
    ·rename_i p r uG
     have hl:loud (ops[j]).op=false:=by
      cases hl:loud (ops[j]).op with
      |false=>rfl
      |true=>
       exfalso;cases ho:(ops[j]).op with
       |store t x y=>rw [ho] at uG;simp [quF,opF] at uG
       |insert t m k v=>rw [ho] at uG;simp [quF,opF] at uG
       |call c=>
        obtain ⟨callee,args,ts⟩:=c;rw [ho] at hl uG;cases callee with
        |builtin b=>cases b<;>first|(simp [quF,opF] at uG;done)|(simp [loud] at hl;done)
        |_=>simp [loud] at hl
       |_=>rw [ho] at hl;simp [loud] at hl
     exact kD (.quiet r) qW ⟨hw,rE, .inr ⟨oW,hl,hq.1, .inl ⟨p,uG,hq.2.1⟩⟩⟩ hq.2.2
    ·split at hq
     ·rename_i p r ob bH
      have hl:loud (ops[j]).op=false:=by
       cases ho:(ops[j]).op<;>first|rfl|(rw [ho] at bH;simp [alF] at bH)
      exact kD (.alloc r ob) qW ⟨hw,oW,hl, .inl ⟨p,bH,hq.1⟩⟩ hq.2
     ·split at hq
      ·rename_i t x y ho
       split at hq
       ·rename_i p id ob aZ
        exact kD (.store id ob) qW ⟨hw,oW,by rw [ho];rfl,t,x,y,p,ho,aZ,hq.1⟩ hq.2
       ·exact hq.elim
      ·rename_i t m k v ho
       split at hq
       ·rename_i p id n x aZ
        exact kD (.ins id n x) qW ⟨hw,oW,by rw [ho];rfl,t,m,k,v,p,ho,aZ,hq.1⟩ hq.2
       ·exact hq.elim
      ·rename_i args ts ho
       split at hq
       ·rename_i s x t t' uM hts
        obtain ⟨rfl,hq⟩:=hq
        split at hq
        ·rename_i p r g ob ji
         have e1:args= #[s,x]:=by simpa using congrArg List.toArray uM
         have e2:ts= #[t,t]:=by simpa using congrArg List.toArray hts
         subst e1 e2;exact kD (.app r g ob) qW ⟨hw,oW,by rw [ho];rfl,s,x,t,p,ho,ji,hq.1⟩ hq.2
        ·exact hq.elim
       ·exact hq.elim
      ·rename_i f args ts ho
       split at hq
       ·rename_i g cap hf
        rcases hq.2 with hqa|⟨es,n,t,l,sW,hk⟩
        case inr=>exact kD (.alloc (.sl es (base+j) 0 n) (.cells t (.ints l))) qW ⟨hw,oW,by rw [ho];rfl, .inr ⟨hq.1,f,args,ts,g,cap,ho,hf,es,n,t,l,sW,rfl,rfl⟩⟩ hk
        obtain ⟨r,Yp,tu⟩:=Z1 hqa;exact kD (.quiet r) qW ⟨hw,rE, .inr ⟨oW,by rw [ho];rfl,hq.1, .inr ⟨f,args,ts,g,cap,ho,hf,Yp⟩⟩⟩ tu
       ·exact hq.elim
      ·exact hq.elim
  split at h
  ·rename_i hg
   exact YM (.inl hg) h
  ·rename_i g b hg
   split at h
   ·rename_i c hc
    rw [oU] at hc;by_cases qX:c=b
    ·exact YM (.inr ⟨g,b,hg,by rw [hc,qX]⟩) (h.1 qX)
    ·have sE:c= !b:=by cases c<;>cases b<;>simp_all
     obtain ⟨qW,hr⟩:=h.2 sE;exact kD .skip qW ⟨g,b,hg, .inl (by rw [hc,sE])⟩ hr
   ·rename_i hc
    rw [oU] at hc;exact kD .skip h.1 ⟨g,b,hg, .inr hc⟩ h.2
   ·exact h.elim
end
end Go.Proofs.YtjpbeacamoijhaaGreatDoor
