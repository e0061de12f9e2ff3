/- The author's own program logic: calls, statements, functions, statements that draw their order. -/
import Derived.Test.YthohfoombimbeaaGreatDoorGa
import Derived.Orders
set_option linter.unusedSimpArgs false
set_option linter.unusedVariables false
namespace Go.Proofs.YthohfoombimbeaaGreatDoor
open Go Go.RowKit
def ρ0:Nat->Addr:=fun _=>⟨0,0,none⟩
def nW(P:Program)(f:Nat):Prop:= ∃fn,P.funcs[f]?=some fn/\fn.body.isSome=true/\(fn.name== "runtime.NumGoroutine")=false
def Cp(w:World)(Mx:Nat->Prop):Prop:=Good w/\ ∀b,Mx b->b<w.heap.size
def Fn(P:Program)(f:Nat)(args:List AV)(r:AV):Prop:=
 nW P f/\ ∀(w:World) (Mx:Nat->Prop) (vs:List Value),Cp w Mx->vs.length=args.length->(∀(i:Nat) (v:Value) (x:AV),vs[i]?=some v->args[i]?=some x->VR w Mx ρ0 (fun _=>False) v x)->
  Calls P f vs.toArray w fun e w'=>∃v,e= .returned v/\Below w.heap.size w w'/\VR w' Mx ρ0 (fun _=>False) v r
def ym5:AV->Bool
 |.int .. |.bool _|.str _|.nils=>true
 |_=>false
def flat:AV->Bool
 |.agg xs=>xs.all ym5
 |.tup xs=>xs.all ym5
 |x=>ym5 x
def xI(P:Program)(f:Nat)(args:List AV)(r:AV):Prop:=
 nW P f/\ ∀(w:World) (Mx:Nat->Prop) (vs:List Value),Cp w Mx->vs.length=args.length->(∀(i:Nat) (v:Value) (x:AV),vs[i]?=some v->args[i]?=some x->VR w Mx ρ0 (fun _=>False) v x)->
  Calls P f vs.toArray w fun e w'=>∃v,e= .returned v/\Below w.heap.size w w'/\VR w' (fun b=>b<w.heap.size) ρ0 (fun _=>False) v r
def dd(P:Program)(f:Nat)(xs:List AV)(H:Hp)(K:AV->Prop):Prop:=
 if xs.all p3 then∃r,Fn P f xs r/\K r else (∀x∈xs,dO H 6 x)/\ ∃r,((Fn P f (xs.map (snap H 6)) r/\flat r=true)\/xI P f (xs.map (snap H 6)) r)/\K r
def oG(P:Program)(N:Nat)(c:Code)(fr:Fr)(H:Hp)(Q:Exit->Fr->Hp->Prop):Prop:=
 ∀(B:Nat) (w0:js) (Mx:Nat->Prop) (w:World) (ρ:Nat->Addr) (a:Act),aO B w0 Mx N w ρ fr H a->
  c.wp P (fun e a' w'=>∃ρ' fr' H',Q e fr' H'/\aO B w0 Mx N w' ρ' fr' H' a') a w
def resL(P:Program)(fr:Fr)(H:Hp):List ResultVar->Option (Prop×List AV)
 |[]=>some (True,[])
 |.tmp t::r=>match resL P fr H r with
  |some (p,l)=>some (p,evA fr (.tmp t)::l)
  |none=>none
 |.cell d t::r=>match ymw P (hget H) t (evA fr (.tmp d)),resL P fr H r with
  |some (q,x),some (p,l)=>some (q/\p,x::l)
  |_,_=>none
def ye8:List AV->AV
 |[x]=>x
 |l=> .tup l
def frOf(k:Nat):List AV->Fr
 |[]=>[]
 |x::r=>(k,x)::frOf (k+1) r
def retI(P:Program)(rs:List ResultVar)(K:AV->Fr->Hp->Prop)(e:Exit)(fr:Fr)(H:Hp):Prop:=
 (e= .ret\/e= .normal)/\match resL P fr H rs with
 |some (p,l)=>p/\K (ye8 l) (unl fr) H
 |none=>False
def HA(P:Program)(f:Nat)(xs:List AV)(fr:Fr)(H:Hp)(K:AV->Fr->Hp->Prop):Prop:=
 ∀(B:Nat) (w0:js) (Mx:Nat->Prop) (N:Nat) (w:World) (ρ:Nat->Addr) (a:Act),aO B w0 Mx N w ρ fr H a->∀vs:List Value,vs.length=xs.length->
  (∀(i:Nat) (v:Value) (x:AV),vs[i]?=some v->xs[i]?=some x->VR w (MM Mx H ρ) ρ (DD H) v x)->
  nW P f/\Calls P f vs.toArray w fun e w'=>∃v r ρ' fr' H',e= .returned v/\K r fr' H'/\aO B w0 Mx N w' ρ' fr' H' a/\VR w' (MM Mx H' ρ') ρ' (DD H') v r
structure jy(P:Program)(f:Nat)(xs:List AV)(fr:Fr)(H:Hp)(K:AV->Fr->Hp->Prop):Prop where
 out:(∃fn c,P.funcs[f]?=some fn/\fn.body=some c/\(fn.name== "runtime.NumGoroutine")=false/\(xs.length<=fn.ntmps/\fn.ntmps<=1000000)/\oG P fn.ntmps c (frOf 0 xs++lft fr) H (retI P fn.results.toList K))\/HA P f xs fr H K
theorem jy.intro{P:Program}{f:Nat}{xs:List AV}{fr:Fr}{H:Hp}{K:AV->Fr->Hp->Prop}{fn:Func}{c:Code}(rs:List ResultVar)(hf:P.funcs[f]?=some fn)(hb:fn.body=some c)(BC:fn.results.toList=rs)(hn:(fn.name== "runtime.NumGoroutine")=false)(hl:xs.length<=fn.ntmps/\fn.ntmps<=1000000)
  (h:oG P fn.ntmps c (frOf 0 xs++lft fr) H (retI P rs K)):jy P f xs fr H K:=⟨.inl ⟨fn,c,hf,hb,hn,hl,by rw[BC];exact h⟩⟩
def nD(P:Program)(f:Nat)(args:List AV)(r:AV)(H0:Hp):Prop:=
 nW P f/\ ∀(w:World) (Mx:Nat->Prop) (vs:List Value),Cp w Mx->vs.length=args.length->(∀(i:Nat) (v:Value) (x:AV),vs[i]?=some v->args[i]?=some x->VR w Mx ρ0 (fun _=>False) v x)->
  Calls P f vs.toArray w fun e w'=>∃v ρ',e= .returned v/\aO w.heap.size ⟨w,fun _=>undef⟩ Mx 0 w' ρ' [] H0 {tmps:= #[],defers:=[]}/\VR w' (MM Mx H0 ρ') ρ' (DD H0) v r
def KW(P:Program)(f:Nat)(xs:List AV)(H:Hp)(aP:Nat)(K:AV->AObj->Prop):Prop:=
 ∃es n t l,(∀j,j<l.len->∃k,l.get j=I k)/\((xs.all p3=true/\nD P f xs (.sl es 0 0 n) [(0,.cells t l)])\/((∀x∈xs,dO H 6 x)/\nD P f (xs.map (snap H 6)) (.sl es 0 0 n) [(0,.cells t l)]))/\K (.sl es aP 0 n) (.cells t l)
def Cx(P:Program)(f:Nat)(xs:List AV)(H:Hp)(aP:Nat)(K:AV->Prop)(K2:AV->AObj->Prop):Prop:=dd P f xs H K\/KW P f xs H aP K2
def KV(P:Program)(f:Nat)(xs:List AV)(fr:Fr)(H:Hp)(K:AV->Fr->Hp->Prop):Prop:=
 (∃r,Fn P f xs r/\K r fr H)\/(∃r H0,nD P f xs r H0/\K (cS (hnew H) 4 r) fr (renH (hnew H) H0++H))\/jy P f xs fr H K
def aL(P:Program)(f:Nat)(xs:List AV)(fr:Fr)(H:Hp)(K:AV->Fr->Hp->Prop):Prop:=
 if xs.all p3 then KV P f xs fr H K else
  ((∀x∈xs,dO H 6 x)/\ ∃r,Fn P f (xs.map (snap H 6)) r/\flat r=true/\K r fr H)\/
  (∃ids,ykg (da H ids) fr/\ye7 (da H ids) H/\(∀x∈xs,cO (da H ids) 4 x)/\(xs.map (cH (da H ids) 4)).all p3=true/\KV P f (xs.map (cH (da H ids) 4)) (frzF (da H ids) fr) (fg (da H ids) H) K)\/
  jy P f xs fr H K
def rC(c b:Bool)(A B:Prop):Prop:=(c=b->A)/\(c= !b->B)
theorem yx6{c c' b:Bool}{A B:Prop}(h:c=c'):rC c b A B=rC c' b A B:=by rw[h]
theorem y8i{A B:Prop}:rC true true A B=A:=by simp[rC]
theorem y8j{A B:Prop}:rC true false A B=B:=by simp[rC]
theorem y8k{A B:Prop}:rC false true A B=B:=by simp[rC]
theorem y8l{A B:Prop}:rC false false A B=A:=by simp[rC]
theorem ytk{P:Program}{f:Nat}{xs E6:List AV}{fr fr':Fr}{H H':Hp}{K:AV->Fr->Hp->Prop}(h1:xs=E6)(h2:fr=fr')(h3:H=H'):aL P f xs fr H K=aL P f E6 fr' H' K:=by rw[h1,h2,h3]
theorem ytl{P:Program}{f:Nat}{xs E6:List AV}{H H':Hp}{K:AV->Prop}(h1:xs=E6)(h3:H=H'):dd P f xs H K=dd P f E6 H' K:=by rw[h1,h3]
section
variable{P:Program}{f:Nat}{xs:List AV}{fr:Fr}{H:Hp}{K:AV->Fr->Hp->Prop}
theorem aL.fn{r:AV}(hp:xs.all p3=true)(h:Fn P f xs r)(k:K r fr H):aL P f xs fr H K:=by unfold aL;rw[zM hp];exact .inl ⟨r,h,k⟩
theorem aL.DV{r:AV}{H0:Hp}(hp:xs.all p3=true)(h:nD P f xs r H0)(k:K (cS (hnew H) 4 r) fr (renH (hnew H) H0++H)):aL P f xs fr H K:=by unfold aL;rw[zM hp];exact .inr (.inl ⟨r,H0,h,k⟩)
theorem aL.inline(h:jy P f xs fr H K):aL P f xs fr H K:=by
 unfold aL
 split
 ·exact .inr (.inr h)
 ·exact .inr (.inr h)
theorem aL.flat{r:AV}{ys:List AV}(hp:xs.all p3=false)(hs:∀x∈xs,dO H 6 x)(hy:xs.map (snap H 6)=ys)(h:Fn P f ys r)(hf:Go.Proofs.YthohfoombimbeaaGreatDoor.flat r=true)(k:K r fr H):aL P f xs fr H K:=by
 unfold aL;rw[zL (by simp[hp])];subst hy;exact .inl ⟨hs,r,h,hf,k⟩
theorem aL.wO{ys:List AV}{fr':Fr}{H':Hp}(ids:List Nat)(hp:xs.all p3=false)(h1:ykg (da H ids) fr)(h2:ye7 (da H ids) H)(h3:∀x∈xs,cO (da H ids) 4 x)(hy:xs.map (cH (da H ids) 4)=ys)(h4:ys.all p3=true)
  (jY:frzF (da H ids) fr=fr') (hH:fg (da H ids) H=H') (k:aL P f ys fr' H' K):aL P f xs fr H K:=by
 unfold aL;rw[zL (by simp[hp])];subst hy;subst jY;subst hH;unfold aL at k;rw[zM h4]at k;exact .inr (.inl ⟨ids,h1,h2,h3,h4,k⟩)
theorem dd.fn{K:AV->Prop}{aP:Nat}{K2:AV->AObj->Prop}{r:AV}(hp:xs.all p3=true)(h:Fn P f xs r)(k:K r):Cx P f xs H aP K K2:=by left;unfold dd;rw[zM hp];exact⟨r,h,k⟩
theorem dd.flat{K:AV->Prop}{aP:Nat}{K2:AV->AObj->Prop}{r:AV}{ys:List AV}(hp:xs.all p3=false)(hs:∀x∈xs,dO H 6 x)(hy:xs.map (snap H 6)=ys)(h:Fn P f ys r)(hf:Go.Proofs.YthohfoombimbeaaGreatDoor.flat r=true)(k:K r):Cx P f xs H aP K K2:=by
 left;unfold dd;rw[zL (by simp[hp])];subst hy;exact⟨hs,r,.inl ⟨h,hf⟩,k⟩
theorem dd.new{K:AV->Prop}{aP:Nat}{K2:AV->AObj->Prop}{r:AV}{ys:List AV}(hp:xs.all p3=false)(hs:∀x∈xs,dO H 6 x)(hy:xs.map (snap H 6)=ys)(h:xI P f ys r)(k:K r):Cx P f xs H aP K K2:=by
 left;unfold dd;rw[zL (by simp[hp])];subst hy;exact⟨hs,r,.inr h,k⟩
theorem dd.own{K:AV->Prop}{aP:Nat}{K2:AV->AObj->Prop}{ys:List AV}{es n t:Nat}{l:List Int}(hs:∀x∈xs,dO H 6 x)(hy:xs.map (snap H 6)=ys)(h:nD P f ys (.sl es 0 0 n) [(0,.cells t (.ints l))])(k:K2 (.sl es aP 0 n) (.cells t (.ints l))):Cx P f xs H aP K K2:=by
 subst hy;exact .inr ⟨es,n,t,.ints l,fun j _=>⟨_,rfl⟩,.inr ⟨hs,h⟩,k⟩
end
def cvOk(P:Program):Op->Bool
 |.convert s _ _=>match tk P s with|.bad=>false|_=>true
 |_=>true
def Xw(P:Program)(N:Nat)(o:Oper)(K:Fr->Hp->Prop)(fr:Fr)(H:Hp):Prop:=
 ∀(B:Nat) (w0:js) (Mx:Nat->Prop) (w:World) (ρ:Nat->Addr) (a:Act),aO B w0 Mx N w ρ fr H a->∀Q:Exit->Act->World->Prop,o.wp P a w (fun a' w'=>∃ρ' fr' H',K fr' H'/\aO B w0 Mx N w' ρ' fr' H' a') Q
def vn:Op->Bool
 |.next .. |.range .. |.entry .. |.insert .. |.makeMap .. |.load .. |.index .. |.indexAddr .. |.build .. |.convert .. =>true
 |.call {callee:= .builtin .copy, .. }|.call {callee:= .builtin .clear, .. }|.call {callee:= .builtin .len, .. }=>true
 |_=>false
def sG(P:Program)(N:Nat)(o:Oper)(fr:Fr)(H:Hp)(K:Fr->Hp->Prop):Prop:=
 match o.op with
 |.store t x y=>match stF P H t (evA fr x) (evA fr y) with
  |some (p,id,ob)=>p/\dok o.dst N=true/\K (fput fr o.dst .any) (hset H id ob)
  |none=>False
 |.mapUpdate t m k x=>match muF P H t (evA fr m) (evA fr k) (evA fr x) with
  |some (id,ob)=>dok o.dst N=true/\K (fput fr o.dst .any) (hset H id ob)
  |none=>False
 |.call c=>match c.callee with
  |.builtin .append=>match c.args.toList,c.argTypes.toList with
   |[s,x],[t,t']=>t=t'/\match apF P fr H t (evA fr s) (evA fr x) with
    |some (p,r,fr',H')=>p/\dok o.dst N=true/\K (fput fr' o.dst r) H'
    |none=>False
   |_,_=>False
  |.value f=>match evA fr f with
   |.fn g cap=>dok o.dst N=true/\aL P g (c.args.toList.map (evA fr)++cap) fr H fun r fr' H'=>K (fput fr' o.dst r) H'
   |_=>False
  |_=>vn o.op=true/\Xw P N o K fr H
 |_=>vn o.op=true/\Xw P N o K fr H
def nS(P:Program)(N:Nat)(o:Oper)(fr:Fr)(H:Hp)(K:Fr->Hp->Prop):Prop:=
 cvOk P o.op=true/\match quF P H (evA fr) o.op with
 |some (p,r)=>p/\dok o.dst N=true/\K (fput fr o.dst r) H
 |none=>match alF P (hnew H) (evA fr) o.op with
  |some (p,r,ob)=>p/\dok o.dst N=true/\K (fput fr o.dst r) ((hnew H,ob)::H)
  |none=>sG P N o fr H K
def gval(ops:Array Oper)(fr:Fr)(j:Nat):AV:=match (ops[j]?).bind (·.dst) with
 |some d=>if d<1000000 then fget fr d else .any
 |none=> .any
def gput(ops:Array Oper)(fr:Fr)(j:Nat)(b:Bool):Fr:=match (ops[j]?).bind (·.dst) with
 |some d=>(d,.bool b)::fr
 |none=>fr
def fO(P:Program)(N:Nat)(ops:Array Oper):List Oper->Fr->Hp->(Fr->Hp->Prop)->Prop
 |[],fr,H,K=>K fr H
 |o::r,fr,H,K=>match o.guard with
  |none=>nS P N o fr H fun fr' H'=>fO P N ops r fr' H' K
  |some (j,b)=>match gval ops fr j with
   |.bool c=>rC c b (nS P N o (gput ops fr j b) H fun fr' H'=>fO P N ops r fr' H' K) (dok o.dst N=true/\fO P N ops r (fput (gput ops fr j (!b)) o.dst (.tup [])) H K)
   |.tup []=>dok o.dst N=true/\fO P N ops r (fput fr o.dst (.tup [])) H K
   |_=>False
section
variable{P:Program}{B:Nat}{w0:js}{Mx:Nat->Prop}{N:Nat}{w:World}{ρ:Nat->Addr}{fr:Fr}{H:Hp}{a:Act}
theorem aO.later(h:aO B w0 Mx N w ρ fr H a){w':World}(hb:Below w.heap.size w w'):aO B w0 Mx N w' ρ fr H a:=by
 have hc:∀{D:Nat->Prop} {v:Value} {x:AV},VR w (MM Mx H ρ) ρ D v x->VR w' (MM Mx H ρ) ρ D v x:=fun hv=>
  hv.carry hb.size (fun b aC hm=>⟨hb.block b aC,hm⟩) (fun id hd=>⟨hd,rfl,fun arr t ha=>⟨arr,(hb.block _ (gA ha)).trans ha,rfl⟩⟩)
 refine⟨h.below.trans (hb.mono h.hB),Nat.le_trans h.hB hb.size,fun b hm=>Nat.lt_of_lt_of_le (h.mx b hm) hb.size,h.own,fun id o ho=>?_,h.inj,fun t=>hc (h.frv t),h.defers,h.size⟩;have hr:=h.objs id o ho;cases o with
 |gone=>trivial
 |cells t c=>
  obtain⟨k1,arr,k2,k3,k4⟩:=hr;exact⟨k1,arr,(hb.block _ (gA k2)).trans k2,k3,fun j hj=>let ⟨u,hu,hv⟩:=k4 j hj;⟨u,hu,hc hv⟩⟩
 |gmap t ck l=>
  obtain⟨es,k1,k2,k3⟩:=hr;exact⟨es,(hb.block _ (gA k1)).trans k1,k2,fun j e q he hl=>let ⟨g1,g2,g3⟩:=k3 j e q he hl;⟨g1,g2,hc g3⟩⟩
 |iter dB s sn la=>
  obtain⟨k1,k2,k3⟩:=hr;exact⟨k1,k2,(hb.block _ (gA k3)).trans k3⟩
 |imap t l=>
  obtain⟨k0,es,ck,k1,k2,k3⟩:=hr;exact⟨k0,es,ck,(hb.block _ (gA k1)).trans k1,k2,fun j e k x he hl=>let ⟨g1,g2,g3⟩:=k3 j e k x he hl;⟨g1,hc g2,g3⟩⟩
 |fmap t c=>
  obtain⟨k0,es,ck,k1,k2⟩:=hr;exact⟨k0,es,ck,(hb.block _ (gA k1)).trans k1,k2⟩
theorem aO.eZ(h:aO B w0 Mx N w ρ fr H a):Good w:=h.defers.2 w h.below
theorem aO.mb(h:aO B w0 Mx N w ρ fr H a)(b:Nat)(hm:MM Mx H ρ b):b<w.heap.size:=by
 rcases hm with h1|⟨id,o,h1,h2,h3⟩
 ·exact h.mx b h1
 ·rw[<-h3];exact(h.objs id o h1).lt h2
theorem y42{v:Value}{x:AV}{M M':Nat->Prop}{ρ':Nat->Addr}{D':Nat->Prop}(hv:VR w M ρ0 (fun _=>False) v x)(hf:flat x=true):VR w M' ρ' D' v x:=by
 have h1:∀{v:Value} {x:AV},VR w M ρ0 (fun _=>False) v x->ym5 x=true->VR w M' ρ' D' v x:=fun hv hf=>by
  cases hv<;>first|(cases hf;done)|constructor
 cases x with
 |agg xs=>
  obtain⟨vs,rfl,hl,hx⟩:=hv.bD;exact .agg vs xs hl fun i v x g1 g2=>h1 (hx i v x g1 g2) (zZ.1 hf _ (zQ g2))
 |tup xs=>
  obtain⟨vs,rfl,hl,hx⟩:=hv.fV;exact .tup vs xs hl fun i v x g1 g2=>h1 (hx i v x g1 g2) (zZ.1 hf _ (zQ g2))
 |_=>exact h1 hv hf
theorem Ut(h:aO B w0 Mx N w ρ fr H a){f:Nat}{xs:List AV}{K:AV->Prop}(hc:dd P f xs H K){vs:List Value}(hl:vs.length=xs.length)
  (hv:∀(i:Nat) (v:Value) (x:AV),vs[i]?=some v->xs[i]?=some x->VR w (MM Mx H ρ) ρ (DD H) v x):
  nW P f/\Calls P f vs.toArray w fun e w'=>∃v r,e= .returned v/\K r/\aO B w0 Mx N w' ρ fr H a/\VR w' (MM Mx H ρ) ρ (DD H) v r/\Below w.heap.size w w':=by
 unfold dd at hc
 split at hc
 ·rename_i hp
  obtain⟨r,⟨dt,hfn⟩,hk⟩:=hc;refine⟨dt,(hfn w (MM Mx H ρ) vs ⟨h.eZ,h.mb⟩ hl fun i v x h1 h2=>(hv i v x h1 h2).og (zZ.1 hp _ (zQ h2))).mono ?_⟩;rintro e w' ⟨v,rfl,hb,hr⟩;exact⟨v,r,rfl,hk,h.later hb,hr.D0,hb⟩
 ·obtain⟨hs,r,uJ,hk⟩:=hc;have JT:∀(i:Nat) (v:Value) (x:AV),vs[i]?=some v->(xs.map (snap H 6))[i]?=some x->VR w (fun _=>False) ρ0 (fun _=>False) v x:=fun i v x h1 h2=>by
   simp only[zR]at h2;obtain⟨x',g1,rfl⟩:=zzB.1 h2;exact II h (fun _ h=>h.elim) 6 v x' (hv i v x' h1 g1) (hs _ (zQ g1))
  rcases uJ with ⟨⟨dt,hfn⟩,hf⟩|⟨dt,hfn⟩
  ·refine⟨dt,(hfn w (fun _=>False) vs ⟨h.eZ,fun _ h=>h.elim⟩ (by simpa using hl) JT).mono ?_⟩;rintro e w' ⟨v,rfl,hb,hr⟩;exact⟨v,r,rfl,hk,h.later hb,y42 hr hf,hb⟩
  ·refine⟨dt,(hfn w (fun _=>False) vs ⟨h.eZ,fun _ h=>h.elim⟩ (by simpa using hl) JT).mono ?_⟩;rintro e w' ⟨v,rfl,hb,hr⟩;exact⟨v,r,rfl,hk,h.later hb,(hr.carry (ρ':=ρ0) (D':=fun _=>False) (zA _) (fun b _ hm=>⟨rfl,fun hM=>hm (h.mb b hM)⟩) (fun k hd=>hd.elim)).D0,hb⟩
theorem Nr{f:Nat}(h:nW P f)(args:Array Value):(callFunc f args).run P w= .ok (.enter f args) w:=by
 obtain⟨fn,h1,h2,h3⟩:=h;have h4:¬fn.body=none:=by intro hb;rw[hb]at h2;cases h2
 have h5: ¬fn.name= "runtime.NumGoroutine" :=by simpa using h3
 simp[callFunc,program,Sem.run,h1,h4,h5]
def Eh(tmps:Array Value):ResultVar->Sem Value
 |.tmp t=>pure (tmps.getD t undef)
 |.cell d t=>do loadVar t (<-asAddr (tmps.getD d undef))
theorem Ui(fn:Func)(tmps:Array Value):results fn tmps=(do let vs<-fn.results.mapM (Eh tmps);pure (if h:vs.size=1 then vs[0] else .tuple vs)):=by
 unfold results;congr 2
theorem Ni(h:aO B w0 Mx N w ρ fr H a):∀(rs:List ResultVar) (p:Prop) (l:List AV),resL P fr H rs=some (p,l)->p->∃vs:List Value,(rs.mapM (Eh a.tmps)).run P w= .ok vs w/\vs.length=l.length/\
  ∀(i:Nat) (v:Value) (x:AV),vs[i]?=some v->l[i]?=some x->VR w (MM Mx H ρ) ρ (DD H) v x
 |[],p,l,hr,_=>by simp only[resL]at hr;cases hr;exact⟨[],by simp,rfl,by simp⟩
 |.tmp t::rs,p,l,hr,hp=>by
  simp only[resL]at hr
  split at hr
  ·rename_i p' l' h'
   cases hr;obtain⟨vs,h1,h2,h3⟩:=Ni h rs _ _ h' hp;refine⟨a.tmps.getD t undef::vs,?_,by simp[h2],fun i v x hv hx=>?_⟩
   ·simp only[List.mapM_cons,Eh];simp only[Sem.run_bind,Sem.run_pure,Result.andThen_ok,h1]
   ·cases i with
    |zero=>simp only[List.getElem?_cons_zero,Option.some.injEq]at hv hx;subst hv hx;exact h.ev (.tmp t)
    |succ i=>exact h3 i v x (by simpa using hv) (by simpa using hx)
  ·cases hr
 |.cell d t::rs,p,l,hr,hp=>by
  simp only[resL]at hr
  split at hr
  ·rename_i q x p' l' hq h'
   cases hr;obtain⟨vs,h1,h2,h3⟩:=Ni h rs _ _ h' hp.2;obtain⟨z,hz,yv⟩:=UB (P:=P) h.objs (h.ev (.tmp d)) hq hp.1;have F7:∀u:Value,∀z:Value,(Instr.loadAt t u).run P w= .ok z w->(do loadVar t (<-asAddr u):Sem Value).run P w= .ok z w:=by
    intro u z hz;cases u with
    |pointer o=>
     cases o with
     |some ad=>simpa [Instr.loadAt,Instr.sureAddr,asAddr] using hz
     |none=>simp[Instr.loadAt,Instr.sureAddr,stuck,Sem.run]at hz
    |_=>simp[Instr.loadAt,Instr.sureAddr,stuck,Sem.run]at hz
   refine⟨z::vs,?_,by simp[h2],fun i v x hv hx=>?_⟩
   ·have tP:=F7 (a.tmps.getD d undef) z hz;simp only[Sem.run_bind]at tP;simp only[List.mapM_cons,Eh];simp only[Sem.run_bind,Sem.run_pure,tP,Result.andThen_ok,h1]
   ·cases i with
    |zero=>simp only[List.getElem?_cons_zero,Option.some.injEq]at hv hx;subst hv hx;exact yv
    |succ i=>exact h3 i v x (by simpa using hv) (by simpa using hx)
  ·cases hr
theorem TG:∀(xs:List AV) (k t:Nat),fget (frOf k xs) t=if k<=t then xs.getD (t-k) .any else .any
 |[],k,t=>by simp[frOf,fget]
 |x::xs,k,t=>by
  simp only[frOf,fget];by_cases h:k=t
  ·subst h;simp
  ·rw[zL h,TG xs (k+1) t];by_cases h2:k<=t
   ·rw[zM (by omega),zM h2]
    have:t-k=(t-(k+1))+1:=by omega
    rw[this];simp
   ·rw[zL (by omega),zL h2]
theorem Uh(h:aO B w0 Mx N w ρ fr H a){fn:Func}{p:Prop}{l:List AV}(hr:resL P fr H fn.results.toList=some (p,l))(hp:p):∃v,(results fn a.tmps).run P w= .ok v w/\VR w (MM Mx H ρ) ρ (DD H) v (ye8 l):=by
 obtain⟨E7,h1,h2,h3⟩:=Ni (P:=P) h fn.results.toList p l hr hp;have hm:(fn.results.mapM (Eh a.tmps)).run P w= .ok E7.toArray w:=by
  rw[Array.mapM_eq_mapM_toList];show Sem.run P (Functor.map List.toArray _) w=_;simp only[Sem.run_map,h1,Result.andThen_ok]
 by_cases hv1:E7.length=1
 ·match E7,hv1 with
  |[v],_=>
   match l,h2 with
   |[x],_=>
    refine⟨v,?_,h3 0 v x rfl rfl⟩;rw[Ui,Sem.run_bind,hm];simp
 ·have mI:ye8 l= .tup l:=by
   match l,h2 with
   |[],_=>rfl
   |[x],h2=>exact zzA h2 hv1
   |_::_::_,_=>rfl
  rw[mI];refine⟨.tuple E7.toArray,?_,.tup E7 l h2 h3⟩;rw[Ui,Sem.run_bind,hm];simp[hv1]
theorem Jw(h:aO B w0 Mx N w ρ fr H a){f:Nat}{xs:List AV}{K:AV->Fr->Hp->Prop}(hc:jy P f xs fr H K){vs:List Value}(hl:vs.length=xs.length)
  (hv:∀(i:Nat) (v:Value) (x:AV),vs[i]?=some v->xs[i]?=some x->VR w (MM Mx H ρ) ρ (DD H) v x):
  nW P f/\Calls P f vs.toArray w fun e w'=>∃v r ρ' fr' H',e= .returned v/\K r fr' H'/\aO B w0 Mx N w' ρ' fr' H' a/\VR w' (MM Mx H' ρ') ρ' (DD H') v r:=by
 rcases hc.out.symm with hS|⟨fn,c,hf,hb,hn,hlen,hw⟩
 ·exact hS _ _ _ _ _ _ _ h vs hl hv
 refine⟨⟨fn,hf,by rw[hb];rfl,hn⟩,calls_of_wp hf hb ?_⟩;obtain⟨g1,xA⟩:∃g1:Nat->Value,∀n,g1 n=gv w0 a (n-1000000):=⟨_,fun _=>rfl⟩;let w1:js:=⟨w0.w,g1⟩
 have BR:∀(a:Act) (n:Nat),¬n<1000000->gv w1 a n=g1 n:=fun a n hn=>by unfold gv;rw[zL hn]
 let a1:Act:={tmps:=vs.toArray++Array.replicate (fn.ntmps-vs.toArray.size) undef,defers:=[]}
 have jG:aO B w1 Mx fn.ntmps w ρ (frOf 0 xs++lft fr) H a1:=by
  refine⟨h.below,h.hB,h.mx,h.own,h.objs,h.inj,fun t=>?_,⟨rfl,h.defers.2⟩,by simp[a1];omega,hlen.2⟩;by_cases ht:t<1000000
  ·have uN:gv w1 a1 t=(vs.toArray++Array.replicate (fn.ntmps-vs.toArray.size) undef).getD t undef:=by unfold gv;rw[zM ht]
   rw[uN];by_cases hx:t<xs.length
   ·have Bw:t<vs.length:=by omega
    have e1:(vs.toArray++Array.replicate (fn.ntmps-vs.toArray.size) undef).getD t undef=vs[t]:=by
     rw[Array.getD_eq_getD_getElem?,Array.getElem?_append_left (by simpa using Bw)];simp[Bw]
    have e2:fget (frOf 0 xs++lft fr) t=xs[t]:=by
     have gen:∀(xs:List AV) (k t:Nat) (F:Fr) (hx:k<=t/\t-k<xs.length),fget (frOf k xs++F) t=xs[t-k]'hx.2:=by
      intro xs
      induction xs with
      |nil=>intro k t F hx;simp at hx
      |cons x xs ih=>
       intro k t F hx;simp only[frOf,List.cons_append,fget];by_cases e:k=t
       ·subst e;simp
       ·rw[zL e,ih (k+1) t F ⟨by omega,by simp at hx;omega⟩];simp[show t-k=(t-(k+1))+1 by omega]
     simpa using gen xs 0 t (lft fr) ⟨Nat.zero_le _,by simpa using hx⟩
    rw[e1,e2];exact hv t vs[t] xs[t] (zJ Bw) (zJ hx)
   ·have e2:fget (frOf 0 xs++lft fr) t= .any:=by
     rw[Nn _ _ _ (fun s x OG e=>?_),CW,zL (by omega)];have gen:∀(xs:List AV) (k s:Nat) (x:AV),(s,x)∈frOf k xs->s<k+xs.length:=by
      intro xs
      induction xs with
      |nil=>intro k s x hx;simp[frOf]at hx
      |cons y ys ih=>
       intro k s x hx;simp only[frOf,zzD]at hx;rcases hx with hx|hx
       ·cases hx;simp
       ·have:=ih (k+1) s x hx;simp;omega
     have:=gen xs 0 s x OG
     omega
    rw[e2];exact .any _
  ·have uN:gv w1 a1 t=gv w0 a (t-1000000):=by rw[BR _ _ ht,xA]
   have e2:fget (frOf 0 xs++lft fr) t=fget fr (t-1000000):=by
    rw[Nn _ _ _ (fun s x OG e=>?_),CW,zM (by omega)];have gen:∀(xs:List AV) (k s:Nat) (x:AV),(s,x)∈frOf k xs->s<k+xs.length:=by
     intro xs
     induction xs with
     |nil=>intro k s x hx;simp[frOf]at hx
     |cons y ys ih=>
      intro k s x hx;simp only[frOf,zzD]at hx;rcases hx with hx|hx
      ·cases hx;simp
      ·have:=ih (k+1) s x hx;simp;omega
    have:=gen xs 0 s x OG
    omega
   rw[uN,e2];exact h.frv _
 refine wp_mono (hw B w1 Mx w ρ a1 jG) ?_;rintro e a' w' ⟨ρ',fr',H',⟨he,hr⟩,hs⟩
 split at hr
 ·rename_i p l gI
  obtain⟨hp,hk⟩:=hr;obtain⟨v,aU,Bx⟩:=Uh (P:=P) hs gI hp;have F9:aO B w0 Mx N w' ρ' (unl fr') H' a:=by
   refine⟨hs.below,hs.hB,hs.mx,hs.own,hs.objs,hs.inj,fun t=>?_,h.defers,h.size⟩
   have:=hs.frv (t+1000000)
   have uN:gv w1 a' (t+1000000)=gv w0 a t:=by
    rw[BR _ _ (by omega),xA,Nat.add_sub_cancel]
   rw[uN]at this;rw[MB];exact this
  have qK:bodyPost P fn (fun e w'=>∃v r ρ' fr' H',e= .returned v/\K r fr' H'/\aO B w0 Mx N w' ρ' fr' H' a/\VR w' (MM Mx H' ρ') ρ' (DD H') v r) .ret a' w':=⟨hs.defers.1,v,aU,v,_,ρ',_,H',rfl,hk,F9,Bx⟩;rcases he with rfl|rfl
  ·exact qK
  ·exact qK
 ·exact hr.elim
theorem Us(h:aO B w0 Mx N w ρ fr H a){f:Nat}{xs:List AV}{K:AV->Fr->Hp->Prop}(hp:xs.all p3=true)(hc:KV P f xs fr H K){vs:List Value}(hl:vs.length=xs.length)
  (hv:∀(i:Nat) (v:Value) (x:AV),vs[i]?=some v->xs[i]?=some x->VR w (MM Mx H ρ) ρ (DD H) v x):
  nW P f/\Calls P f vs.toArray w fun e w'=>∃v r ρ' fr' H',e= .returned v/\K r fr' H'/\aO B w0 Mx N w' ρ' fr' H' a/\VR w' (MM Mx H' ρ') ρ' (DD H') v r:=by
 rcases hc with ⟨r,⟨dt,hfn⟩,hk⟩|⟨r,H0,⟨dt,hfn⟩,hk⟩|hc
 ·refine⟨dt,(hfn w (MM Mx H ρ) vs ⟨h.eZ,h.mb⟩ hl fun i v x h1 h2=>(hv i v x h1 h2).og (zZ.1 hp _ (zQ h2))).mono ?_⟩;rintro e w' ⟨v,rfl,hb,hr⟩;exact⟨v,r,ρ,fr,H,rfl,hk,h.later hb,hr.D0⟩
 ·refine⟨dt,(hfn w (MM Mx H ρ) vs ⟨h.eZ,h.mb⟩ hl fun i v x h1 h2=>(hv i v x h1 h2).og (zZ.1 hp _ (zQ h2))).mono ?_⟩;rintro e w' ⟨v,ρ',rfl,hs,hr⟩;obtain⟨_,j2,j3⟩:=h.join (fun i hi=>EP hi) rfl hs;exact⟨v,_,_,_,_,rfl,hk,j2,j3 v r hr⟩
 ·exact Jw h hc hl hv
theorem YK(h:aO B w0 Mx N w ρ fr H a){f:Nat}{xs:List AV}{K:AV->Fr->Hp->Prop}(hc:aL P f xs fr H K){vs:List Value}(hl:vs.length=xs.length)
  (hv:∀(i:Nat) (v:Value) (x:AV),vs[i]?=some v->xs[i]?=some x->VR w (MM Mx H ρ) ρ (DD H) v x):
  nW P f/\Calls P f vs.toArray w fun e w'=>∃v r ρ' fr' H',e= .returned v/\K r fr' H'/\aO B w0 Mx N w' ρ' fr' H' a/\VR w' (MM Mx H' ρ') ρ' (DD H') v r:=by
 unfold aL at hc
 split at hc
 ·rename_i hp;exact Us h hp hc hl hv
 ·rename_i hp
  rcases hc with ⟨hs,r,hfn,hf,hk⟩|⟨ids,h1,h2,h3,h4,hq⟩|hc
  ·obtain⟨dt,eW⟩:=Ut (P:=P) (K:=fun r=>K r fr H) h (by unfold dd;rw[zL hp];exact⟨hs,r,.inl ⟨hfn,hf⟩,hk⟩) hl hv;exact⟨dt,eW.mono fun e w' ⟨v,r,e1,e2,e3,e4,_⟩=>⟨v,r,ρ,fr,H,e1,e2,e3,e4⟩⟩
  ·have hz:=h.freeze (HF:=da H ids) (fun i o=>I9 i o) h1 h2;refine Us hz h4 hq (by simpa using hl) fun i v x g1 g2=>?_;simp only[zR]at g2;obtain⟨x',k1,rfl⟩:=zzB.1 g2;exact Q8 h (fun i o=>I9 i o) 4 v x' (hv i v x' g1 k1) (h3 _ (zQ k1))
  ·exact Jw h hc hl hv
theorem EV{o:Oper}{K:Fr->Hp->Prop}(h:aO B w0 Mx N w ρ fr H a)(hk:nS P N o fr H K)(Q:Exit->Act->World->Prop):
  o.wp P a w (fun a' w'=>∃ρ' fr' H',K fr' H'/\aO B w0 Mx N w' ρ' fr' H' a') Q:=by
 unfold nS at hk;obtain⟨qU,hk⟩:=hk;have yK:∀s d x,o.op= .convert s d x->∃e,P.underlying s=some e:=fun s d x ho=>by
  rw[ho]at qU;simp only[cvOk]at qU;cases hu:P.underlying s with
  |some e=>exact⟨e,rfl⟩
  |none=>simp[tk,hu]at qU
 unfold Oper.wp
 split at hk
 ·rename_i p r hq
  obtain⟨hp,hd,hK⟩:=hk;obtain⟨v,aU,hv⟩:=C9 (P:=P) h.objs h.ev yK hq hp;rw[aU];exact⟨ρ,_,_,hK,h.put hd hv⟩
 ·split at hk
  ·rename_i p r ob br
   obtain⟨hp,hd,hK⟩:=hk;obtain⟨v,w',aU,hs,hv,_⟩:=TN (P:=P) h (EP (zA _)) br hp;rw[aU];exact⟨_,_,_,hK,hs.put hd hv⟩
  ·unfold sG at hk
   split at hk
   ·rename_i t x y ho
    split at hk
    ·rename_i p id ob bT
     obtain⟨hp,hd,hK⟩:=hk;obtain⟨w',aU,hs⟩:=TQ (P:=P) h (h.ev x) (h.ev y) bT hp
     have:(execOp a.eval o).run P w= .ok .skip w':=by simp only[execOp,ho];simp[aU]
     rw[this];exact⟨_,_,_,hK,hs.put hd (.any _)⟩
    ·exact hk.elim
   ·rename_i t m k x ho
    split at hk
    ·rename_i id ob bT
     obtain⟨hd,hK⟩:=hk;obtain⟨w',aU,hs⟩:=TP (P:=P) h (h.ev m) (h.ev k) (h.ev x) bT
     have:(execOp a.eval o).run P w= .ok .skip w':=by simp only[execOp,ho];simp[aU]
     rw[this];exact⟨_,_,_,hK,hs.put hd (.any _)⟩
    ·exact hk.elim
   ·rename_i c ho
    split at hk
    ·rename_i yL
     split at hk
     ·rename_i s x t t' h1 h2
      obtain⟨rfl,hk⟩:=hk
      split at hk
      ·rename_i p r fr' H' iT
       obtain⟨hp,hd,hK⟩:=hk;obtain⟨z,w',ρ',aU,hs,hv⟩:=Yi (P:=P) (ty:=o.type) h (h.ev s) (h.ev x) iT hp;obtain⟨callee,args,ts⟩:=c;simp only at yL h1 h2;have e1:args= #[s,x]:=by simpa using congrArg List.toArray h1
       have e2:ts= #[t,t]:=by simpa using congrArg List.toArray h2
       subst e1 e2 yL
       have:(execOp a.eval o).run P w= .ok (.value z) w':=by simp[execOp,ho,resolve,invoke,builtin,aU]
       rw[this];exact⟨_,_,_,hK,hs.put hd hv⟩
      ·exact hk.elim
     ·exact hk.elim
    ·rename_i f yL
     split at hk
     ·rename_i g cap hf
      obtain⟨hd,hk⟩:=hk;obtain⟨vs,ef,hl,hx⟩:=(hf▸h.ev f).e7;have mQ:=YK (P:=P) h hk (vs:=c.args.toList.map a.eval++vs) (by simp[hl]) (fun i v x h1 h2=>by
       by_cases hi:i<c.args.toList.length
       ·rw[List.getElem?_append_left (by simpa using hi),zR]at h1 h2;rw[zJ hi]at h1 h2;cases h1;cases h2;exact h.ev _
       ·rw[List.getElem?_append_right (by simpa using hi)]at h1 h2;simp only[List.length_map]at h1 h2;exact hx _ v x h1 h2)
      obtain⟨dt,eW⟩:=mQ;have e1:(c.args.map a.eval++vs.toArray)=(c.args.toList.map a.eval++vs).toArray:=by
       obtain⟨callee,⟨l⟩,ts⟩:=c;simp
      have:(execOp a.eval o).run P w= .ok (.enter g (c.args.toList.map a.eval++vs).toArray) w:=by
       simp only[execOp,ho,resolve,yL,ef];have h3:(#[]++Array.map a.eval c.args++vs.toArray)=(c.args.toList.map a.eval++vs).toArray:=by rw[Array.empty_append];exact e1
       simp only[Deferred.ofValue,invoke,Sem.run_bind,Sem.run_pure,Result.andThen_ok,h3];exact Nr dt _
      rw[this];refine eW.mono ?_;rintro e w' ⟨v,r,ρ',fr',H',rfl,hK,hs,hv⟩;exact⟨_,_,_,hK,hs.put hd hv⟩
     ·exact hk.elim
    ·exact hk.2 _ _ _ _ _ _ h Q
   ·exact hk.2 _ _ _ _ _ _ h Q
theorem Jp(h:aO B w0 Mx N w ρ fr H a){ops:Array Oper}{j:Nat}{c:Bool}(hg:gval ops fr j= .bool c):yielded ops a.tmps j=some c:=by
 unfold gval at hg;unfold yielded;cases hd:(ops[j]?).bind (·.dst) with
 |none=>rw[hd]at hg;cases hg
 |some d=>
  rw[hd]at hg;simp only at hg
  split at hg
  case isFalse=>cases hg
  rename_i aC
  have hv:=h.frv d;rw[hg,gv,zM aC]at hv;have e:=hv.bool_inv;cases ht:a.tmps[d]? with
  |none=>simp[Array.getD_eq_getD_getElem?,ht,undef]at e
  |some u=>simp[Array.getD_eq_getD_getElem?,ht]at e;subst e;simp[ht]
theorem Nh(h:aO B w0 Mx N w ρ fr H a){ops:Array Oper}{j:Nat}(hg:gval ops fr j= .tup []):yielded ops a.tmps j=none:=by
 unfold gval at hg;unfold yielded;cases hd:(ops[j]?).bind (·.dst) with
 |none=>rw[hd]at hg;cases hg
 |some d=>
  rw[hd]at hg;simp only at hg
  split at hg
  case isFalse=>cases hg
  rename_i aC
  have hv:=h.frv d;rw[hg,gv,zM aC]at hv;have e:∃vs,a.tmps.getD d undef= .tuple vs:=by
   generalize a.tmps.getD d undef=v at hv;cases hv;exact⟨_,rfl⟩
  obtain⟨vs,e⟩:=e;cases ht:a.tmps[d]? with
  |none=>simp[ht]
  |some u=>simp[Array.getD_eq_getD_getElem?,ht]at e;subst e;simp[ht]
theorem aO.gput(h:aO B w0 Mx N w ρ fr H a){ops:Array Oper}{j:Nat}{c:Bool}(hg:gval ops fr j= .bool c):aO B w0 Mx N w ρ (gput ops fr j c) H a:=by
 unfold Go.Proofs.YthohfoombimbeaaGreatDoor.gput;unfold gval at hg
 split
 ·rename_i d hd
  rw[hd]at hg;simp only at hg
  split at hg
  ·refine⟨h.below,h.hB,h.mx,h.own,h.objs,h.inj,fun t=>?_,h.defers,h.size⟩;simp only[fget]
   split
   ·rename_i e;subst e;rw[<-hg];exact h.frv d
   ·exact h.frv t
  ·cases hg
 ·exact h
theorem Jk{ops:Array Oper}{Q:Exit->Fr->Hp->Prop}:∀(n k:Nat) (w:World) (ρ:Nat->Addr) (fr:Fr) (H:Hp) (a:Act),k+n=ops.size->fO P N ops (ops.toList.drop k) fr H (Q .normal)->aO B w0 Mx N w ρ fr H a->
  wpOps P ops (fun e a' w'=>∃ρ' fr' H',Q e fr' H'/\aO B w0 Mx N w' ρ' fr' H' a') (List.range' k n) a w
 |0,k,w,ρ,fr,H,a,hk,hq,hs=>by
  rw[List.drop_of_length_le (by simp;omega)]at hq;simp only[fO]at hq;simp only[List.range'_zero,wpOps];exact⟨ρ,fr,H,hq,hs⟩
 |n+1,k,w,ρ,fr,H,a,hk,hq,hs=>by
  have aC:k<ops.size:=by omega
  rw[List.drop_eq_getElem_cons (by simpa using aC)]at hq;simp only[fO,Array.getElem_toList]at hq;rw[List.range'_succ];simp only[wpOps,Array.getElem?_eq_getElem aC]
  have jJ:∀{K:Fr->Hp->Prop},(∀fr' H',K fr' H'->fO P N ops (ops.toList.drop (k+1)) fr' H' (Q .normal))->∀(a':Act) (w':World),(∃ρ' fr' H',K fr' H'/\aO B w0 Mx N w' ρ' fr' H' a')->
   wpOps P ops (fun e a' w'=>∃ρ' fr' H',Q e fr' H'/\aO B w0 Mx N w' ρ' fr' H' a') (List.range' (k+1) n) a' w':=fun hK a' w' ⟨ρ',fr',H',h1,h2⟩=>Jk n (k+1) w' ρ' fr' H' a' (by omega) (hK _ _ h1) h2
  split at hq
  ·rename_i hg
   have hw:Region.wanted ops[k] (yielded ops a.tmps)=true:=by simp[Region.wanted,hg]
   rw[zM hw];exact .inl (Oper.wp_mono (jJ fun _ _ h=>h) (EV hs hq _))
  ·rename_i j b hg
   split at hq
   ·rename_i c hc
    have hy:=Jp hs hc;by_cases hcb:c=b
    ·have hw:Region.wanted ops[k] (yielded ops a.tmps)=true:=by simp[Region.wanted,hg,hy,hcb]
     rw[zM hw];exact .inl (Oper.wp_mono (jJ fun _ _ h=>h) (EV (hs.gput (hcb▸hc)) (hq.1 hcb) _))
    ·have hw:¬Region.wanted ops[k] (yielded ops a.tmps)=true:=by simp[Region.wanted,hg,hy,hcb]
     rw[zL hw];have qY:c= !b:=by cases c<;>cases b<;>simp_all
     obtain⟨hd,hq⟩:=hq.2 qY;exact Jk n (k+1) w ρ _ H _ (by omega) hq ((hs.gput (qY▸hc)).put hd (.tup [] [] rfl (fun i v x h=>by simp at h)))
   ·rename_i hc
    have hy:=Nh hs hc;have hw:¬Region.wanted ops[k] (yielded ops a.tmps)=true:=by simp[Region.wanted,hg,hy]
    rw[zL hw];obtain⟨hd,hq⟩:=hq;exact Jk n (k+1) w ρ _ H _ (by omega) hq (hs.put hd (.tup [] [] rfl (fun i v x h=>by simp at h)))
   ·exact hq.elim
theorem oG.mono{c:Code}{Q Q':Exit->Fr->Hp->Prop}(h:oG P N c fr H Q)(hq:∀e fr H,Q e fr H->Q' e fr H):oG P N c fr H Q':=
 fun B w0 Mx w ρ a hs=>wp_mono (h B w0 Mx w ρ a hs) fun _ _ _ ⟨ρ',fr',H',h1,h2⟩=>⟨ρ',fr',H',hq _ _ _ h1,h2⟩
def Wk(fr:Fr)(H:Hp)(fr':Fr)(H':Hp):Prop:=∀(B:Nat) (w0:js) (Mx:Nat->Prop) (N:Nat) (w:World) (ρ:Nat->Addr) (a:Act),aO B w0 Mx N w ρ fr H a->∃ρ',aO B w0 Mx N w ρ' fr' H' a
def yfx(Q:Exit->Fr->Hp->Prop)(K:Fr->Hp->Prop):Exit->Fr->Hp->Prop
 |.normal,fr,H=>K fr H
 |e,fr,H=>Q e fr H
def yeu(id:Nat)(Q:Exit->Fr->Hp->Prop):Exit->Fr->Hp->Prop
 |.exit bO,fr,H=>if bO=id then Q .normal fr H else Q (.exit bO) fr H
 |e,fr,H=>Q e fr H
structure dr(P:Program)(N:Nat)(c:Code)(fr:Fr)(H:Hp)(Q:Exit->Fr->Hp->Prop):Prop where
 out:oG P N (.loop c) fr H Q
structure a8(P:Program)(N:Nat)(id:Nat)(ops:Array Oper)(fr:Fr)(H:Hp)(Q:Exit->Fr->Hp->Prop):Prop where
 out:oG P N (.region id ops true) fr H Q
def Hx(P:Program)(N:Nat)(ops:Array Oper)(fr:Fr)(H:Hp)(K:Fr->Hp->Prop):Prop:=fO P N ops ops.toList fr H K
theorem y8m{P:Program}{N:Nat}(l:List Oper){fr:Fr}{H:Hp}{K:Fr->Hp->Prop}:Hx P N l.toArray fr H K=fO P N l.toArray l fr H K:=rfl
def lB(P:Program)(N:Nat):Code->Fr->Hp->(Exit->Fr->Hp->Prop)->Prop
 |.skip,fr,H,Q=>Q .normal fr H
 |.region _ ops false,fr,H,Q=>Hx P N ops fr H (Q .normal)
 |.region id ops true,fr,H,Q=>a8 P N id ops fr H Q
 |.seq x y,fr,H,Q=>lB P N x fr H (yfx Q fun fr' H'=>oG P N y fr' H' Q)
 |.cond c x y,fr,H,Q=>match evA fr c with
  |.bool b=>rC b true (lB P N x fr H Q) (lB P N y fr H Q)
  |_=>False
 |.block id c,fr,H,Q=>lB P N c fr H (yeu id Q)
 |.loop c,fr,H,Q=>dr P N c fr H Q
 |.exit id,fr,H,Q=>Q (.exit id) fr H
 |.ret,fr,H,Q=>Q .ret fr H
 |.label _,fr,H,Q=>Q .normal fr H
 |_,_,_,_=>False
theorem ah:∀(c:Code) (fr:Fr) (H:Hp) (Q:Exit->Fr->Hp->Prop),lB P N c fr H Q->oG P N c fr H Q:=by
 intro c
 induction c with
 |skip=>intro fr H Q h B w0 Mx w ρ a hs;exact wp_skip ⟨ρ,fr,H,h,hs⟩
 |region id ops d=>
  intro fr H Q h;cases d with
  |true=>exact h.out
  |false=>
   intro B w0 Mx w ρ a hs;refine wp_region ?_;rw[List.range_eq_range'];exact Jk ops.size 0 w ρ fr H a (by omega) (show fO P N ops (ops.toList.drop 0) fr H (Q .normal) from by rw[List.drop_zero];exact h) hs
 |seq x y ihx _=>
  intro fr H Q h B w0 Mx w ρ a hs;refine wp_seq (wp_mono (ihx fr H _ h B w0 Mx w ρ a hs) ?_);rintro e a' w' ⟨ρ',fr',H',h1,h2⟩;cases e with
  |normal=>exact h1 B w0 Mx w' ρ' a' h2
  |_=>exact⟨ρ',fr',H',h1,h2⟩
 |cond c x y ihx ihy=>
  intro fr H Q h B w0 Mx w ρ a hs;simp only[lB]at h
  split at h
  ·rename_i b hb
   have e:=(hb▸hs.ev c).bool_inv;cases b with
   |true=>exact wp_cond_true e (ihx fr H Q (h.1 rfl) B w0 Mx w ρ a hs)
   |false=>exact wp_cond_false e (ihy fr H Q (h.2 rfl) B w0 Mx w ρ a hs)
  ·exact h.elim
 |block id c ih=>
  intro fr H Q h B w0 Mx w ρ a hs;refine wp_block (wp_mono (ih fr H _ h B w0 Mx w ρ a hs) ?_);rintro e a' w' ⟨ρ',fr',H',h1,h2⟩;cases e with
  |exit bO=>
   simp only[yeu]at h1;simp only[Exit.inBlock]
   split
   ·rename_i hh;rw[zM hh]at h1;exact⟨ρ',fr',H',h1,h2⟩
   ·rename_i hh;rw[zL hh]at h1;exact⟨ρ',fr',H',h1,h2⟩
  |_=>exact⟨ρ',fr',H',h1,h2⟩
 |loop c _=>intro fr H Q h;exact h.out
 |exit id=>intro fr H Q h B w0 Mx w ρ a hs;exact wp_exit ⟨ρ,fr,H,h,hs⟩
 |ret=>intro fr H Q h B w0 Mx w ρ a hs;exact wp_ret ⟨ρ,fr,H,h,hs⟩
 |label l=>intro fr H Q h B w0 Mx w ρ a hs;exact wp_label ⟨ρ,fr,H,h,hs⟩
 |_=>intro fr H Q h;exact h.elim
theorem dr.intro{c:Code}{Q:Exit->Fr->Hp->Prop}(Inv:Nat->Fr->Hp->Prop)(h0:∃n fr0 H0,Wk fr H fr0 H0/\Inv n fr0 H0)
  (hr:∀n fr H,Inv n fr H->oG P N c fr H (yfx Q fun fr' H'=>∃m fr1 H1,m<n/\Wk fr' H' fr1 H1/\Inv m fr1 H1)):dr P N c fr H Q:=by
 refine⟨?_⟩;intro B w0 Mx w ρ a hs;obtain⟨n0,fr0,H0,hw0,qQ⟩:=h0;obtain⟨ρ0',OL⟩:=hw0 B w0 Mx N w ρ a hs
 have Pm:∀(n:Nat) (a:Act) (w:World),(∃ρ fr H,Inv n fr H/\aO B w0 Mx N w ρ fr H a)->∀(b:Frame) (k:List Item) (cs:List Frame),
   ∃e a' w',(∃ρ' fr' H',Q e fr' H'/\aO B w0 Mx N w' ρ' fr' H' a')/\Arrives P (lone (b.at a (.code c::.inLoop c::k)) cs w) b k cs e a' w':=by
  intro n
  induction n using Nat.strongRecOn with
  |_ n ih=>
   intro a w hI b k cs;obtain⟨ρ,fr,H,hinv,hs⟩:=hI;obtain⟨e,a₁,w₁,hq,fv⟩:=hr n fr H hinv B w0 Mx w ρ a hs b (.inLoop c::k) cs;obtain⟨ρ1,fr1,H1,hq,sV⟩:=hq;cases e with
   |normal=>
    obtain⟨m,Kz,H2,aC,hwk,hi⟩:=hq;obtain⟨ρ2,jI⟩:=hwk B w0 Mx N w₁ ρ1 a₁ sV;obtain⟨e₂,a₂,w₂,hq₂,harr₂⟩:=ih m aC a₁ w₁ ⟨ρ2,Kz,H2,hi,jI⟩ b k cs;exact⟨e₂,a₂,w₂,hq₂,.of_steps (Steps.trans fv (.one step_inLoop)) harr₂⟩
   |exit id=>exact⟨_,a₁,w₁,⟨ρ1,fr1,H1,hq,sV⟩,.pass (x:= .inLoop c) rfl (fun _ _=> .inl (by simp)) fv⟩
   |goto l=>exact⟨_,a₁,w₁,⟨ρ1,fr1,H1,hq,sV⟩,.pass (x:= .inLoop c) rfl (fun _ _=> .inl (by simp)) fv⟩
   |ret=>exact⟨_,a₁,w₁,⟨ρ1,fr1,H1,hq,sV⟩,.pass (x:= .inLoop c) rfl (fun _ _=> .inl (by simp)) fv⟩
   |panic ch=>exact⟨_,a₁,w₁,⟨ρ1,fr1,H1,hq,sV⟩,.pass (x:= .inLoop c) rfl (fun _ _=> .inl (by simp)) fv⟩
   |outgrown=>exact⟨_,a₁,w₁,⟨ρ1,fr1,H1,hq,sV⟩,.pass (x:= .inLoop c) rfl (fun _ _=> .inl (by simp)) fv⟩
 intro b k cs;obtain⟨e,a',w',hq,fv⟩:=Pm n0 a w ⟨ρ0',fr0,H0,qQ,OL⟩ b k cs;exact⟨e,a',w',hq,.of_steps (.one step_loop) fv⟩
theorem Wk.trans{fr fr1 Kz:Fr}{H H1 H2:Hp}(h:Wk fr H fr1 H1)(k:Wk fr1 H1 Kz H2):Wk fr H Kz H2:=fun B w0 Mx N w ρ a hs=>let ⟨ρ1,h1⟩:=h B w0 Mx N w ρ a hs;k B w0 Mx N w ρ1 a h1
def s1(H:Hp):AV->Bool
 |.ptr i _=>(hget H i).isSome
 |.sl _ i _ _=>(hget H i).isSome
 |.mp i=>(hget H i).isSome
 |.agg _|.tup _|.fn _ _=>false
 |_=>true
def s2(H:Hp):AV->Bool
 |.agg xs=>xs.all (s1 H)
 |.fn _ xs=>xs.all (s1 H)
 |x=>s1 H x
def s3(H:Hp):AV->Bool
 |.agg xs=>xs.all (s2 H)
 |.tup xs=>xs.all (s2 H)
 |.fn _ xs=>xs.all (s2 H)
 |x=>s1 H x
def sO(H:Hp):AObj->Bool
 |.cells _ (.lst l)=>l.all (s3 H)
 |.imap _ l=>l.all fun q=>s3 H q.2
 |.gmap _ _ l=>l.all fun q=>s3 H q.2.2
 |.iter dB _ _ _=>(hget H dB).isSome
 |_=>true
theorem VR.JC{M:Nat->Prop}{D:Nat->Prop}{H:Hp}{v:Value}{x:AV}(h:VR w M ρ D v x)(hp:s1 H x=true):VR w M ρ (DD H) v x:=by
 have hs:∀i,(hget H i).isSome=true->DD H i:=fun i hi=>Option.isSome_iff_exists.1 hi;cases h with
 |any=>exact .any _
 |int=>exact .int _ _
 |bool=>exact .bool _
 |str=>exact .str _
 |nils=>exact .nils
 |ro es len c ad cap x hl hc he h0 hv=>exact .ro es len c ad cap x hl hc he h0 hv
 |rp c off a x hb hm hj hv=>exact .rp c off a x hb hm hj hv
 |ptr i off hd=>exact .ptr i off (hs i hp)
 |sl es i off len cap hd hc arr t ad ha hb hr=>exact .sl es i off len cap (hs i hp) hc arr t ad ha hb hr
 |mp i hd=>exact .mp i (hs i hp)
 |_=>cases hp
theorem VR.NR{M:Nat->Prop}{D:Nat->Prop}{H:Hp}{v:Value}{x:AV}(h:VR w M ρ D v x)(hp:s2 H x=true):VR w M ρ (DD H) v x:=by
 cases x with
 |agg xs=>
  obtain⟨vs,rfl,hl,hx⟩:=h.bD;exact .agg vs xs hl fun i v x h1 h2=>(hx i v x h1 h2).JC (zZ.1 hp _ (zQ h2))
 |fn f xs=>
  obtain⟨vs,rfl,hl,hx⟩:=h.e7;exact .fn f vs xs hl fun i v x h1 h2=>(hx i v x h1 h2).JC (zZ.1 hp _ (zQ h2))
 |_=>exact h.JC hp
theorem VR.qm{M:Nat->Prop}{D:Nat->Prop}{H:Hp}{v:Value}{x:AV}(h:VR w M ρ D v x)(hp:s3 H x=true):VR w M ρ (DD H) v x:=by
 cases x with
 |agg xs=>
  obtain⟨vs,rfl,hl,hx⟩:=h.bD;exact .agg vs xs hl fun i v x h1 h2=>(hx i v x h1 h2).NR (zZ.1 hp _ (zQ h2))
 |fn f xs=>
  obtain⟨vs,rfl,hl,hx⟩:=h.e7;exact .fn f vs xs hl fun i v x h1 h2=>(hx i v x h1 h2).NR (zZ.1 hp _ (zQ h2))
 |tup xs=>
  obtain⟨vs,rfl,hl,hx⟩:=h.fV;exact .tup vs xs hl fun i v x h1 h2=>(hx i v x h1 h2).NR (zZ.1 hp _ (zQ h2))
 |_=>exact h.JC hp
def subF(fr:Fr)(H':Hp):Fr->Prop
 |[]=>True
 |(t,x)::r=>fget fr t=x/\s3 H' x=true/\subF fr H' r
def subH(H H':Hp):Hp->Prop
 |[]=>True
 |(i,o)::r=>hget H i=some o/\sO H' o=true/\subH H H' r
theorem I8{fr:Fr}{H':Hp}:∀{fr':Fr},subF fr H' fr'->∀t,fget fr' t= .any\/(fget fr' t=fget fr t/\s3 H' (fget fr' t)=true)
 |[],_,t=> .inl rfl
 |(s,x)::r,h,t=>by
  obtain⟨h1,h2,h3⟩:=h;simp only[fget]
  split
  ·rename_i e;subst e;exact .inr ⟨h1.symm,h2⟩
  ·exact I8 h3 t
theorem CV{H H':Hp}:∀{K:Hp},subH H H' K->∀i o,hget K i=some o->hget H i=some o/\sO H' o=true
 |[],_,i,o,h=>by cases h
 |(j,q)::r,h,i,o,hg=>by
  obtain⟨h1,h2,h3⟩:=h;simp only[hget]at hg
  split at hg
  ·rename_i e;subst e;cases hg;exact⟨h1,h2⟩
  ·exact CV h3 i o hg
theorem aO.Ff{fr fr':Fr}{H H':Hp}(hf:subF fr H' fr')(hh:subH H H' H')(hs:aO B w0 Mx N w ρ fr H a):aO B w0 Mx N w ρ fr' H' a:=by
 refine(hs.weaken (fun id o ho=>(CV hh id o ho).1) (fun t=>(I8 hf t).imp id (·.1)) (fun id o ho M hr=>?_) (fun t M v hv=>?_))
 ·have my:=(CV hh id o ho).2;cases o with
  |gone=>trivial
  |cells t c=>
   obtain⟨k1,arr,k2,k3,k4⟩:=hr;refine⟨k1,arr,k2,k3,fun j hj=>?_⟩;obtain⟨u,hu,hv⟩:=k4 j hj;refine⟨u,hu,?_⟩;cases c with
   |ints l=>exact hv.bP rfl
   |bools l=>exact hv.bP rfl
   |lst l=>
    simp only[Cs.len]at hj;simp only[Cs.get,zB,zJ hj,Option.getD_some]at hv⊢;exact hv.qm (zZ.1 my _ (List.getElem_mem hj))
  |gmap t ck l=>
   obtain⟨es,k1,k2,k3⟩:=hr;exact⟨es,k1,k2,fun j e q he hl=>let ⟨g1,g2,g3⟩:=k3 j e q he hl;⟨g1,g2,g3.qm (zZ.1 my q (zQ hl))⟩⟩
  |iter dB s sn la=>
   obtain⟨_,k2,k3⟩:=hr;exact⟨Option.isSome_iff_exists.1 my,k2,k3⟩
  |imap t l=>
   obtain⟨k0,es,ck,k1,k2,k3⟩:=hr;exact⟨k0,es,ck,k1,k2,fun j e k x he hl=>let ⟨g1,g2,g3⟩:=k3 j e k x he hl;⟨g1,g2.qm (zZ.1 my (k,x) (zQ hl)),g3⟩⟩
  |fmap t c=>exact hr
 ·rcases I8 hf t with e|⟨_,e⟩
  ·rw[e];exact .any _
  ·exact hv.qm e
theorem Wk.sub{fr fr':Fr}{H H':Hp}(hf:subF fr H' fr')(hh:subH H H' H'):Wk fr H fr' H':=fun _ _ _ _ _ ρ _ hs=>⟨ρ,hs.Ff hf hh⟩
def retA(P:Program)(rs:List ResultVar)(r:AV)(e:Exit)(fr:Fr)(H:Hp):Prop:=
 (e= .ret\/e= .normal)/\match resL P fr H rs with
 |some (p,l)=>p/\dO H 6 (ye8 l)/\snap H 6 (ye8 l)=r
 |none=>False
theorem Fn.intro{f:Nat}{fn:Func}{c:Code}{args:List AV}{r:AV}(rs:List ResultVar)(hf:P.funcs[f]?=some fn)(hb:fn.body=some c)(BC:fn.results.toList=rs)(hn:(fn.name== "runtime.NumGoroutine")=false)(hl:args.length<=fn.ntmps/\fn.ntmps<=1000000)
  (h:oG P fn.ntmps c (frOf 0 args) [] (retA P rs r)):Fn P f args r:=by
 subst BC;refine⟨⟨fn,hf,by rw[hb];rfl,hn⟩,fun w Mx vs mT xw hv=>calls_of_wp hf hb ?_⟩;have jG:aO w.heap.size ⟨w,fun _=>undef⟩ Mx fn.ntmps w ρ0 (frOf 0 args) [] {tmps:=vs.toArray++Array.replicate (fn.ntmps-vs.toArray.size) undef,defers:=[]}:=by
  refine⟨Below.refl _ _,zA _,mT.2,(fun id o h=>by cases h),(fun id o h=>by cases h),(fun id o _ _ h=>by cases h),fun t=>?_,⟨rfl,fun _ hb=>mT.1.later hb⟩,by simp;omega,hl.2⟩;have uN:gv ⟨w,fun _=>undef⟩ {tmps:=vs.toArray++Array.replicate (fn.ntmps-vs.toArray.size) undef,defers:=[]} t=(vs.toArray++Array.replicate (fn.ntmps-vs.toArray.size) undef).getD t undef:=by
   unfold gv;split
   ·rfl
   ·rw[Array.getD_eq_getD_getElem?,Array.getElem?_eq_none (by simp;omega)];rfl
  rw[uN];rw[TG,zM (Nat.zero_le _),Nat.sub_zero];by_cases ht:t<args.length
  ·have Bw:t<vs.length:=by omega
   have e1:(vs.toArray++Array.replicate (fn.ntmps-vs.toArray.size) undef).getD t undef=vs[t]:=by
    rw[Array.getD_eq_getD_getElem?,Array.getElem?_append_left (by simpa using Bw)];simp[Bw]
   rw[e1]
   have:=hv t vs[t] args[t] (zJ Bw) (zJ ht)
   have e2:args.getD t .any=args[t]:=by simp[ht]
   rw[e2];exact VR.D0 (this.carry (M':=MM Mx [] ρ0) (ρ':=ρ0) (zA _) (fun b _ hm=>⟨rfl,fun hh=>by
    rcases hh with hh|⟨id,o,hh,_⟩
    ·exact hm hh
    ·cases hh⟩) (D':=fun _=>False) (fun _ h=>h.elim))
  ·have e2:args.getD t .any= .any:=by simp[zS (Nat.le_of_not_lt ht)]
   rw[e2];exact .any _
 refine wp_mono (h _ ⟨w,fun _=>undef⟩ Mx w ρ0 _ jG) ?_;rintro e a' w' ⟨ρ',fr',H',⟨he,hr⟩,hs⟩
 split at hr
 ·rename_i p l gI
  obtain⟨hp,gX,JX⟩:=hr;obtain⟨v,aU,Bx⟩:=Uh (P:=P) hs gI hp;have jL:=II hs (My:=Mx) (ρ0:=ρ0) (fun _ h=>h) 6 v (ye8 l) Bx gX;rw[JX]at jL;have qK:bodyPost P fn (fun e w'=>∃v,e= .returned v/\Below w.heap.size w w'/\VR w' Mx ρ0 (fun _=>False) v r) .ret a' w':=⟨hs.defers.1,v,aU,v,rfl,hs.below,jL⟩;rcases he with rfl|rfl
  ·exact qK
  ·exact qK
 ·exact hr.elim
def retO(P:Program)(rs:List ResultVar)(r:AV)(H0:Hp)(e:Exit)(fr:Fr)(H:Hp):Prop:=
 (e= .ret\/e= .normal)/\match resL P fr H rs with
 |some (p,l)=>p/\ye8 l=r/\s3 H0 r=true/\subH H H0 H0
 |none=>False
theorem nD.intro{f:Nat}{fn:Func}{c:Code}{args:List AV}{r:AV}{H0:Hp}(rs:List ResultVar)(hf:P.funcs[f]?=some fn)(hb:fn.body=some c)(BC:fn.results.toList=rs)(hn:(fn.name== "runtime.NumGoroutine")=false)(hl:args.length<=fn.ntmps/\fn.ntmps<=1000000)
  (h:oG P fn.ntmps c (frOf 0 args) [] (retO P rs r H0)):nD P f args r H0:=by
 subst BC;refine⟨⟨fn,hf,by rw[hb];rfl,hn⟩,fun w Mx vs mT xw hv=>?_⟩
 have qD:aO w.heap.size ⟨w,fun _=>undef⟩ Mx 0 w ρ0 [] [] {tmps:= #[],defers:=[]}:=
  ⟨Below.refl _ _,zA _,mT.2,(fun id o h=>by cases h),(fun id o h=>by cases h),(fun id o _ _ h=>by cases h),fun t=> .any _,⟨rfl,fun _ hb=>mT.1.later hb⟩,by simp,by omega⟩
 have PM:MM Mx [] ρ0=Mx:=by
  funext x;apply propext;constructor
  ·rintro (g|⟨id,o,g,_⟩)
   ·exact g
   ·cases g
  ·exact Or.inl
 have GN:jy P f args [] [] (fun r' _ H'=>r'=r/\s3 H0 r=true/\subH H' H0 H0):=by
  refine⟨.inl ⟨fn,c,hf,hb,hn,hl,?_⟩⟩;rw[show frOf 0 args++lft []=frOf 0 args by simp[lft]];refine h.mono fun e fr H hq=>⟨hq.1,?_⟩;have p6:=hq.2
  split at p6
  ·exact⟨p6.1,p6.2.1,p6.2.2.1,p6.2.2.2⟩
  ·exact p6.elim
 obtain⟨_,eW⟩:=Jw (P:=P) qD GN xw (fun i v x g1 g2=>by rw[PM];exact(hv i v x g1 g2).D0);refine eW.mono ?_;rintro e w' ⟨v,r',ρ',fr',H',rfl,⟨rfl,h3,cF⟩,hs,Bx⟩;have jI:=hs.Ff (fr':=[]) (H':=H0) trivial cF;refine⟨v,ρ',rfl,jI,?_⟩;refine VR.qm (D:=DD H') (Bx.carry (zA _) (fun b _ hm=>⟨rfl,fun g=>hm ?_⟩) (fun k hd=>⟨hd,rfl,fun arr t ha=>⟨arr,ha,rfl⟩⟩)) h3
 rcases g with g|⟨id,o,g1,g2,g3⟩
 ·exact .inl g
 ·exact .inr ⟨id,o,(CV cF id o g1).1,g2,g3⟩
end
section
variable(H:Hp)(n:Nat)
def Fk(n:Nat)(es off len:Nat):Option AObj->AV
 |some (.cells _ (.lst l))=> .ro es len ((Cs.lst (l.map (snap H n))).rN off (len*es))
 |some (.cells _ c)=> .ro es len (c.rN off (len*es))
 |_=> .any
def Fl(n:Nat)(off:Nat):Option AObj->AV
 |some (.cells _ (.lst l))=> .rp (.lst (l.map (snap H n))) off
 |some (.cells _ c)=> .rp c off
 |_=> .any
def Fi(n:Nat)(es off len:Nat):Option AObj->Prop
 |some (.cells _ (.lst l))=>0<es/\off+len*es<=l.length/\ ∀x∈l,dO H n x
 |some (.cells _ c)=>0<es/\off+len*es<=c.len
 |_=>True
def Fj(n:Nat):Option AObj->Prop
 |some (.cells _ (.lst l))=>∀x∈l,dO H n x
 |_=>True
theorem snS1(es off len t:Nat)(l:List Int):Fk H n es off len (some (.cells t (.ints l)))= .ro es len (.ints ((l.drop off).take (len*es))):=rfl
theorem snS2(es off len t:Nat)(l:List Bool):Fk H n es off len (some (.cells t (.bools l)))= .ro es len (.bools ((l.drop off).take (len*es))):=rfl
theorem snS3(es off len t:Nat)(l:List AV):Fk H n es off len (some (.cells t (.lst l)))= .ro es len (.lst (((l.map (snap H n)).drop off).take (len*es))):=rfl
theorem snP1(off t:Nat)(l:List Int):Fl H n off (some (.cells t (.ints l)))= .rp (.ints l) off:=rfl
theorem snP2(off t:Nat)(l:List Bool):Fl H n off (some (.cells t (.bools l)))= .rp (.bools l) off:=rfl
theorem snP3(off t:Nat)(l:List AV):Fl H n off (some (.cells t (.lst l)))= .rp (.lst (l.map (snap H n))) off:=rfl
theorem sqS1(es off len t:Nat)(l:List Int):Fi H n es off len (some (.cells t (.ints l)))=(0<es/\off+len*es<=l.length):=rfl
theorem sqS2(es off len t:Nat)(l:List Bool):Fi H n es off len (some (.cells t (.bools l)))=(0<es/\off+len*es<=l.length):=rfl
theorem sqS3(es off len t:Nat)(l:List AV):Fi H n es off len (some (.cells t (.lst l)))=(0<es/\off+len*es<=l.length/\ ∀x∈l,dO H n x):=rfl
theorem sqP1(t:Nat)(l:List Int):Fj H n (some (.cells t (.ints l)))=True:=rfl
theorem sqP2(t:Nat)(l:List Bool):Fj H n (some (.cells t (.bools l)))=True:=rfl
theorem sqP3(t:Nat)(l:List AV):Fj H n (some (.cells t (.lst l)))=∀x∈l,dO H n x:=rfl
theorem y1m:snap H (n+1) .any= .any:=rfl
theorem y1n(k:IntKind)(m:Int):snap H (n+1) (.int k m)= .int k m:=rfl
theorem yx7(b:Bool):snap H (n+1) (.bool b)= .bool b:=rfl
theorem y1o(b:ByteArray):snap H (n+1) (.str b)= .str b:=rfl
theorem yx8:snap H (n+1) .nils= .nils:=rfl
theorem y43(es len:Nat)(c:Cs):snap H (n+1) (.ro es len c)= .ro es len c:=rfl
theorem y44(c:Cs)(off:Nat):snap H (n+1) (.rp c off)= .rp c off:=rfl
theorem y1p(xs:List AV):snap H (n+1) (.agg xs)= .agg (xs.map (snap H n)):=rfl
theorem y1q(xs:List AV):snap H (n+1) (.tup xs)= .tup (xs.map (snap H n)):=rfl
theorem y45(f:Nat)(xs:List AV):snap H (n+1) (.fn f xs)= .fn f (xs.map (snap H n)):=rfl
theorem y46(es id off len:Nat):snap H (n+1) (.sl es id off len)=Fk H n es off len (hget H id):=by
 simp only[snap,Fk];split<;>simp_all
theorem y1r(id off:Nat):snap H (n+1) (.ptr id off)=Fl H n off (hget H id):=by
 simp only[snap,Fl];split<;>simp_all
theorem yx9:dO H (n+1) .any=True:=rfl
theorem yya(k:IntKind)(m:Int):dO H (n+1) (.int k m)=True:=rfl
theorem ywm(b:Bool):dO H (n+1) (.bool b)=True:=rfl
theorem yyb(b:ByteArray):dO H (n+1) (.str b)=True:=rfl
theorem ywn:dO H (n+1) .nils=True:=rfl
theorem y1s(es len:Nat)(c:Cs):dO H (n+1) (.ro es len c)=True:=rfl
theorem y1t(c:Cs)(off:Nat):dO H (n+1) (.rp c off)=True:=rfl
theorem yyc(xs:List AV):dO H (n+1) (.agg xs)=∀x∈xs,dO H n x:=rfl
theorem yyd(xs:List AV):dO H (n+1) (.tup xs)=∀x∈xs,dO H n x:=rfl
theorem y1u(f:Nat)(xs:List AV):dO H (n+1) (.fn f xs)=∀x∈xs,dO H n x:=rfl
theorem y1v(es id off len:Nat):dO H (n+1) (.sl es id off len)=Fi H n es off len (hget H id):=by
 simp only[dO,Fi];split<;>simp_all
theorem yye(id off:Nat):dO H (n+1) (.ptr id off)=Fj H n (hget H id):=by
 simp only[dO,Fj];split<;>simp_all
end
attribute [go_sem] snS1 snS2 snS3 snP1 snP2 snP3 sqS1 sqS2 sqS3 sqP1 sqP2 sqP3 y1m y1n yx7 y1o yx8 y43 y44 y1p y1q y45 y46 y1r yx9 yya ywm yyb ywn y1s y1t yyc yyd y1u y1v yye
section
variable(HF:Hp)(n b:Nat)
def Kw(HF:Hp)(es id off len:Nat):Option AObj->AV
 |some _=>snap HF 6 (.sl es id off len)
 |none=> .sl es id off len
def Kx(HF:Hp)(id off:Nat):Option AObj->AV
 |some _=>snap HF 6 (.ptr id off)
 |none=> .ptr id off
def KA(HF:Hp)(es id off len:Nat):Option AObj->Prop
 |some _=>dO HF 6 (.sl es id off len)
 |none=>True
def KB(HF:Hp)(id off:Nat):Option AObj->Prop
 |some _=>dO HF 6 (.ptr id off)
 |none=>True
def Ky(HF:Hp)(o:AObj):Option AObj->AObj
 |some _=> .gone
 |none=>gM HF o
def JZ(H:Hp)(i:Nat)(r:List Nat):Option AObj->Hp
 |some o=>(i,o)::da H r
 |none=>da H r
theorem fzS1(es id off len:Nat)(o:AObj):Kw HF es id off len (some o)=snap HF 6 (.sl es id off len):=rfl
theorem fzS2(es id off len:Nat):Kw HF es id off len none= .sl es id off len:=rfl
theorem fzP1(id off:Nat)(o:AObj):Kx HF id off (some o)=snap HF 6 (.ptr id off):=rfl
theorem fzP2(id off:Nat):Kx HF id off none= .ptr id off:=rfl
theorem fqS1(es id off len:Nat)(o:AObj):KA HF es id off len (some o)=dO HF 6 (.sl es id off len):=rfl
theorem fqS2(es id off len:Nat):KA HF es id off len none=True:=rfl
theorem fqP1(id off:Nat)(o:AObj):KB HF id off (some o)=dO HF 6 (.ptr id off):=rfl
theorem fqP2(id off:Nat):KB HF id off none=True:=rfl
theorem fzO1(o q:AObj):Ky HF o (some q)= .gone:=rfl
theorem fzO2(o:AObj):Ky HF o none=gM HF o:=rfl
theorem hsE1(i:Nat)(r:List Nat)(o:AObj):JZ HF i r (some o)=(i,o)::da HF r:=rfl
theorem hsE2(i:Nat)(r:List Nat):JZ HF i r none=da HF r:=rfl
theorem hsel1:da HF []=[]:=rfl
theorem hsel2(i:Nat)(r:List Nat):da HF (i::r)=JZ HF i r (hget HF i):=by simp only[da];split<;>simp_all[JZ]
theorem y1w:cH HF (n+1) .any= .any:=rfl
theorem y1x(k:IntKind)(m:Int):cH HF (n+1) (.int k m)= .int k m:=rfl
theorem yyf(b:Bool):cH HF (n+1) (.bool b)= .bool b:=rfl
theorem y1y(b:ByteArray):cH HF (n+1) (.str b)= .str b:=rfl
theorem yyg:cH HF (n+1) .nils= .nils:=rfl
theorem y47(es len:Nat)(c:Cs):cH HF (n+1) (.ro es len c)= .ro es len c:=rfl
theorem y48(c:Cs)(off:Nat):cH HF (n+1) (.rp c off)= .rp c off:=rfl
theorem y49(id:Nat):cH HF (n+1) (.mp id)= .mp id:=rfl
theorem y1z(xs:List AV):cH HF (n+1) (.agg xs)= .agg (xs.map (cH HF n)):=rfl
theorem y10(xs:List AV):cH HF (n+1) (.tup xs)= .tup (xs.map (cH HF n)):=rfl
theorem y5a(f:Nat)(xs:List AV):cH HF (n+1) (.fn f xs)= .fn f (xs.map (cH HF n)):=rfl
theorem y5b(es id off len:Nat):cH HF (n+1) (.sl es id off len)=Kw HF es id off len (hget HF id):=by simp only[cH];split<;>simp_all[Kw]
theorem y11(id off:Nat):cH HF (n+1) (.ptr id off)=Kx HF id off (hget HF id):=by simp only[cH];split<;>simp_all[Kx]
theorem y12:cO HF (n+1) .any=True:=rfl
theorem y13(k:IntKind)(m:Int):cO HF (n+1) (.int k m)=True:=rfl
theorem yyh(b:Bool):cO HF (n+1) (.bool b)=True:=rfl
theorem y14(b:ByteArray):cO HF (n+1) (.str b)=True:=rfl
theorem yyi:cO HF (n+1) .nils=True:=rfl
theorem y5c(es len:Nat)(c:Cs):cO HF (n+1) (.ro es len c)=True:=rfl
theorem y5d(c:Cs)(off:Nat):cO HF (n+1) (.rp c off)=True:=rfl
theorem y5e(id:Nat):cO HF (n+1) (.mp id)=True:=rfl
theorem y15(xs:List AV):cO HF (n+1) (.agg xs)=∀x∈xs,cO HF n x:=rfl
theorem y16(xs:List AV):cO HF (n+1) (.tup xs)=∀x∈xs,cO HF n x:=rfl
theorem y5f(f:Nat)(xs:List AV):cO HF (n+1) (.fn f xs)=∀x∈xs,cO HF n x:=rfl
theorem y5g(es id off len:Nat):cO HF (n+1) (.sl es id off len)=KA HF es id off len (hget HF id):=by simp only[cO];split<;>simp_all[KA]
theorem y17(id off:Nat):cO HF (n+1) (.ptr id off)=KB HF id off (hget HF id):=by simp only[cO];split<;>simp_all[KB]
theorem frzH1:fg HF []=[]:=rfl
theorem frzH2(i:Nat)(o:AObj)(r:Hp):fg HF ((i,o)::r)=(i,Ky HF o (hget HF i))::fg HF r:=by simp only[fg];split<;>simp_all[Ky]
theorem y8n(t:Nat)(l:List Int):gM HF (.cells t (.ints l))= .cells t (.ints l):=rfl
theorem y8o(t:Nat)(l:List Bool):gM HF (.cells t (.bools l))= .cells t (.bools l):=rfl
theorem y8p(t:Nat)(l:List AV):gM HF (.cells t (.lst l))= .cells t (.lst (l.map (cH HF 4))):=rfl
theorem y8q:gM HF .gone= .gone:=rfl
theorem y8r(t:Nat)(l:List (Int×AV)):gM HF (.imap t l)= .imap t l:=rfl
theorem y8s(t ck:Nat)(l:List (ByteArray×Nat×AV)):gM HF (.gmap t ck l)= .gmap t ck (l.map fun q=>(q.1,q.2.1,cH HF 4 q.2.2)):=rfl
theorem y8t(m s la:Nat)(sn:List Nat):gM HF (.iter m s sn la)= .iter m s sn la:=rfl
theorem y5h(t ck:Nat)(l:List (ByteArray×Nat×AV)):uo HF (.gmap t ck l)=∀q∈l,cO HF 4 q.2.2:=rfl
theorem y5i(m s la:Nat)(sn:List Nat):uo HF (.iter m s sn la)=True:=rfl
theorem y8u(t:Nat)(c:MF):gM HF (.fmap t c)= .fmap t c:=rfl
theorem y5j(t:Nat)(c:MF):uo HF (.fmap t c)=True:=rfl
theorem y5k(t:Nat)(l:List Int):uo HF (.cells t (.ints l))=True:=rfl
theorem y5l(t:Nat)(l:List Bool):uo HF (.cells t (.bools l))=True:=rfl
theorem y5m(t:Nat)(l:List AV):uo HF (.cells t (.lst l))=∀x∈l,cO HF 4 x:=rfl
theorem y5n:uo HF .gone=True:=rfl
theorem y5o(t:Nat)(l:List (Int×AV)):uo HF (.imap t l)=True:=rfl
theorem y18:cS b (n+1) .any= .any:=rfl
theorem y19(k:IntKind)(m:Int):cS b (n+1) (.int k m)= .int k m:=rfl
theorem yyj(x:Bool):cS b (n+1) (.bool x)= .bool x:=rfl
theorem y2a(x:ByteArray):cS b (n+1) (.str x)= .str x:=rfl
theorem yyk:cS b (n+1) .nils= .nils:=rfl
theorem y5p(es len:Nat)(c:Cs):cS b (n+1) (.ro es len c)= .ro es len c:=rfl
theorem y5q(c:Cs)(off:Nat):cS b (n+1) (.rp c off)= .rp c off:=rfl
theorem y5r(id:Nat):cS b (n+1) (.mp id)= .mp (b+id):=rfl
theorem y2b(xs:List AV):cS b (n+1) (.agg xs)= .agg (xs.map (cS b n)):=rfl
theorem y2c(xs:List AV):cS b (n+1) (.tup xs)= .tup (xs.map (cS b n)):=rfl
theorem y5s(f:Nat)(xs:List AV):cS b (n+1) (.fn f xs)= .fn f (xs.map (cS b n)):=rfl
theorem y5t(es id off len:Nat):cS b (n+1) (.sl es id off len)= .sl es (b+id) off len:=rfl
theorem y2d(id off:Nat):cS b (n+1) (.ptr id off)= .ptr (b+id) off:=rfl
theorem y8v(t:Nat)(l:List Int):jD b (.cells t (.ints l))= .cells t (.ints l):=rfl
theorem y8w(t:Nat)(l:List Bool):jD b (.cells t (.bools l))= .cells t (.bools l):=rfl
theorem y8x(t:Nat)(l:List AV):jD b (.cells t (.lst l))= .cells t (.lst (l.map (cS b 4))):=rfl
theorem y8y:jD b .gone= .gone:=rfl
end
attribute [go_sem] fzS1 fzS2 fzP1 fzP2 fqS1 fqS2 fqP1 fqP2 fzO1 fzO2 hsE1 hsE2 hsel1 hsel2 y1w y1x yyf y1y yyg y47 y48 y49 y1z y10 y5a y5b y11 y12 y13 yyh y14 yyi y5c y5d y5e y15 y16 y5f y5g y17
attribute [go_sem] y8s y8t y5h y5i y8u y5j frzH1 frzH2 y8n y8o y8p y8q y8r y5k y5l y5m y5n y5o y18 y19 yyj y2a yyk y5p y5q y5r y2b y2c y5s y5t y2d y8v y8w y8x y8y frzF ykg ye7 renH lft unl gput retI y8i y8j y8k y8l retO
section
variable(l m:List Int)(b d:List Bool)(x y:List AV)(i n:Nat)
theorem cl1:(Cs.ints l).len=l.length:=rfl
theorem cl2:(Cs.bools b).len=b.length:=rfl
theorem cl3:(Cs.lst x).len=x.length:=rfl
theorem cg1:(Cs.ints l).get i= .int .i64 (l.getD i 0):=rfl
theorem cg2:(Cs.bools b).get i= .bool (b.getD i false):=rfl
theorem cg3:(Cs.lst x).get i=x.getD i .any:=rfl
theorem cs1(v:Int):(Cs.ints l).set i (.int .i64 v)= .ints (l.set i v):=rfl
theorem cs2(v:Bool):(Cs.bools b).set i (.bool v)= .bools (b.set i v):=rfl
theorem cs3(v:AV):(Cs.lst x).set i v= .lst (x.set i v):=by cases v<;>rfl
theorem ct1:(Cs.ints l).tH=l.map (AV.int .i64):=rfl
theorem ct2:(Cs.bools b).tH=b.map AV.bool:=rfl
theorem ct3:(Cs.lst x).tH=x:=rfl
theorem cd1:(Cs.ints l).drop n= .ints (l.drop n):=rfl
theorem cd2:(Cs.bools b).drop n= .bools (b.drop n):=rfl
theorem cd3:(Cs.lst x).drop n= .lst (x.drop n):=rfl
theorem ck1:(Cs.ints l).take n= .ints (l.take n):=rfl
theorem ck2:(Cs.bools b).take n= .bools (b.take n):=rfl
theorem ck3:(Cs.lst x).take n= .lst (x.take n):=rfl
theorem cw1:(Cs.ints l).rN i n= .ints ((l.drop i).take n):=rfl
theorem cw2:(Cs.bools b).rN i n= .bools ((b.drop i).take n):=rfl
theorem cw3:(Cs.lst x).rN i n= .lst ((x.drop i).take n):=rfl
theorem ca1:(Cs.ints l).app (.ints m)= .ints (l++m):=rfl
theorem ca2:(Cs.bools b).app (.bools d)= .bools (b++d):=rfl
theorem ca3:(Cs.lst x).app (.lst y)= .lst (x++y):=rfl
theorem co1(c:Cs):jm c none=c:=rfl
theorem co2(c c':Cs):jm c (some c')=c.app c':=rfl
theorem cn1:fI none=0:=rfl
theorem cn2(c:Cs):fI (some c)=c.len:=rfl
theorem cc1:gx n (.ints l)= .ints l:=rfl
theorem cc2:gx n (.bools b)= .bools b:=rfl
theorem cc3:gx n (.lst x)= .lst (x.map (cutV n)):=rfl
end
attribute [go_sem] cl1 cl2 cl3 cg1 cg2 cg3 cs1 cs2 cs3 ct1 ct2 ct3 cd1 cd2 cd3 ck1 ck2 ck3 cw1 cw2 cw3 ca1 ca2 ca3 co1 co2 cn1 cn2 cc1 cc2 cc3
attribute [go_sem] ywb okM yke ygb yfe yqb yv8 yv4 yv3 yv5 yv9 ywa zrG yqp ymz idxF idxP entF entI entG gkA yh7 yv6 yv7 muP muG mkJ capF muF muK muM mkM mkE updI updB updP quF opF alF stF apF srcF ymw ymv binF binI unF yf2 ymy ymx yeq lenF yh6 nilF yqa ym4 ycv yhg yfg yfg.isAgg' setL yaw ycg isAg cvOk gval evA absV fget fput dok hget hset hnew yfx yeu
attribute [go_sem] mkC zC isI toI isBo toBo yd3 apF.n2D yi8 cutV cutO hcut fcut n1 n2 n3 frOf p1 p2 p3 retA resL ye8 flat ym5 I InI s1 s2 s3 sO subF subH Option.isSome_some
attribute [go_sem] List.getElem?_cons_zero List.getElem?_cons_succ Option.bind_some Option.map_some Option.map_none Option.bind_none List.map_cons List.map_nil List.all_cons List.all_nil zH zzC Bool.and_true Bool.and_self Bool.true_and Bool.or_true Bool.true_or Bool.or_false Bool.false_or Bool.and_false Bool.false_and
attribute [go_sem] Bool.false_eq_true Bool.true_eq_false Bool.not_true Bool.not_false List.nil_append List.cons_append List.append_nil decide_true decide_false if_true if_false true_and and_true and_self forall_const true_implies false_implies implies_true ne_eq not_true_eq_false not_false_eq_true and_false false_and true_or or_true or_false false_or
attribute [go_sem] Nat.zero_add Nat.add_zero Nat.mul_one Nat.one_mul Option.some.injEq AV.bool.injEq List.size_toArray List.flatMap_cons List.flatMap_nil List.getD_cons_zero List.getD_cons_succ zzD zI forall_eq forall_eq_or_imp List.set_cons_zero List.set_cons_succ List.drop_zero List.drop_succ_cons List.take_zero List.take_succ_cons List.getElem?_toArray List.drop_nil List.take_nil
attribute [go_sem] List.range_zero bne_eq_false_iff_eq decide_eq_true_eq decide_eq_false_iff_not beq_iff_eq zX bne_iff_ne Int.not_lt Int.not_le Bool.not_eq_true' Bool.not_eq_false' Bool.not_eq_true Bool.not_eq_false Nat.zero_mul Nat.mul_zero Int.toNat_zero zD List.all_map List.map_map Nat.max_def eq_self Int.sub_zero Int.zero_add Int.add_zero List.length_replicate zzF List.length_map zV Bool.or_eq_true Bool.decide_eq_true
def mO{α:Type}(x:Option (Prop×α))(A:Prop->α->Prop)(B:Prop):Prop:=match x with
 |some (p,r)=>A p r
 |none=>B
def mB(x:AV)(A:Bool->Prop):Prop:=match x with
 |.bool b=>A b
 |_=>False
def mG(x:AV)(A:Bool->Prop)(B:Unit->Prop):Prop:=match x with
 |.bool c=>A c
 |.tup []=>B ()
 |_=>False
theorem y2e{x x':AV}{A:Bool->Prop}{B:Unit->Prop}(h:x=x'):mG x A B=mG x' A B:=by rw[h]
theorem y5u{c:Bool}{A:Bool->Prop}{B:Unit->Prop}:mG (.bool c) A B=A c:=rfl
theorem y8z{A:Bool->Prop}{B:Unit->Prop}:mG (.tup []) A B=B ():=rfl
def mF(x:AV)(A:Nat->List AV->Prop):Prop:=match x with
 |.fn g cap=>A g cap
 |_=>False
theorem y2f{α:Type}{x x':Option (Prop×α)}{A:Prop->α->Prop}{B:Prop}(h:x=x'):mO x A B=mO x' A B:=by rw[h]
theorem y2g{x x':AV}{A:Bool->Prop}(h:x=x'):mB x A=mB x' A:=by rw[h]
theorem y2h{x x':AV}{A:Nat->List AV->Prop}(h:x=x'):mF x A=mF x' A:=by rw[h]
theorem y5v{α:Type}{p:Prop}{r:α}{A:Prop->α->Prop}{B:Prop}:mO (some (p,r)) A B=A p r:=rfl
theorem y5w{α:Type}{A:Prop->α->Prop}{B:Prop}:mO none A B=B:=rfl
theorem y5x{b:Bool}{A:Bool->Prop}:mB (.bool b) A=A b:=rfl
theorem mF_fn{g:Nat}{cap:List AV}{A:Nat->List AV->Prop}:mF (.fn g cap) A=A g cap:=rfl
section
variable(P:Program)(N:Nat)(ops:Array Oper)(fr:Fr)(H:Hp)(Q:Exit->Fr->Hp->Prop)(K:Fr->Hp->Prop)
def ym8(o:Oper):Option (Prop×Fr×Hp):=match o.op with
 |.store t x y=>(stF P H t (evA fr x) (evA fr y)).map fun q=>(q.1,fput fr o.dst .any,hset H q.2.1 q.2.2)
 |.mapUpdate t m k x=>(muF P H t (evA fr m) (evA fr k) (evA fr x)).map fun q=>(True,fput fr o.dst .any,hset H q.1 q.2)
 |.call c=>match c.callee with
  |.builtin .append=>match c.args.toList,c.argTypes.toList with
   |[s,x],[t,t']=>(apF P fr H t (evA fr s) (evA fr x)).map fun q=>(t=t'/\q.1,fput q.2.2.1 o.dst q.2.1,q.2.2.2)
   |_,_=>none
  |_=>none
 |_=>none
def sO1(o:Oper)(z:Option (Prop×Fr×Hp)):Option (Prop×AV)->Option (Prop×Fr×Hp)
 |some (p,r)=>some (p,fput fr o.dst r,H)
 |none=>z
def sO2(o:Oper)(z:Option (Prop×Fr×Hp)):Option (Prop×AV×AObj)->Option (Prop×Fr×Hp)
 |some (p,r,ob)=>some (p,fput fr o.dst r,(hnew H,ob)::H)
 |none=>z
def yig(o:Oper):Option (Prop×Fr×Hp):=if cvOk P o.op=true/\dok o.dst N=true then
    sO1 fr H o (sO2 fr H o (ym8 P fr H o) (alF P (hnew H) (evA fr) o.op)) (quF P H (evA fr) o.op) else none
def isCV:Op->Bool
 |.call c=>match c.callee with
  |.value _=>true
  |_=>false
 |_=>false
structure Qy(P:Program)(N:Nat)(fr:Fr)(H:Hp)(K:Fr->Hp->Prop)(o:Oper):Prop where
 out:nS P N o fr H K
theorem y2i(o:Oper)(hc:isCV o.op=false):nS P N o fr H K=mO (yig P N fr H o) (fun p q=>p/\K q.1 q.2) (Qy P N fr H K o):=by
 have hS:Qy P N fr H K o=nS P N o fr H K:=propext ⟨fun h=>h.out,fun h=>⟨h⟩⟩;have hX:(dok o.dst N=true)->sG P N o fr H K=mO (ym8 P fr H o) (fun p q=>p/\K q.1 q.2) (sG P N o fr H K):=by
  intro hd;unfold sG ym8;revert hc;generalize o.op=op;intro hc;cases op<;>try rfl
  case store t x y=>
   simp only;rcases stF P H t (evA fr x) (evA fr y) with _|⟨p,i,ob⟩
   ·rfl
   ·simp[mO,hd]
  case mapUpdate t m k x=>
   simp only;rcases muF P H t (evA fr m) (evA fr k) (evA fr x) with _|⟨i,ob⟩
   ·rfl
   ·simp[mO,hd]
  case call c=>
   obtain⟨callee,args,ts⟩:=c;cases callee<;>try rfl
   case builtin b=>
    cases b<;>try rfl
    generalize hl:args.toList=l1;generalize hm:ts.toList=l2;simp only[hl,hm]
    match l1,l2 with
    |[s,x],[t,t']=>
     simp only;rcases apF P fr H t (evA fr s) (evA fr x) with _|⟨p,r,fr',H'⟩
     ·simp[mO]
     ·simp[mO,hd,and_assoc]
    |[],_=>rfl
    |[_],_=>rfl
    |_::_::_::_,_=>rfl
    |[_,_],[]=>rfl
    |[_,_],[_]=>rfl
    |[_,_],_::_::_::_=>rfl
 rw[hS];by_cases h1:cvOk P o.op=true/\dok o.dst N=true
 ·have bT:yig P N fr H o=sO1 fr H o (sO2 fr H o (ym8 P fr H o) (alF P (hnew H) (evA fr) o.op)) (quF P H (evA fr) o.op):=by unfold yig;rw[zM h1]
  rw[bT];unfold nS;rcases quF P H (evA fr) o.op with _|⟨p,r⟩
  ·rcases alF P (hnew H) (evA fr) o.op with _|⟨p,r,ob⟩
   ·simp only[sO1,sO2,h1.1,true_and];exact hX h1.2
   ·simp[sO1,sO2,mO,h1.1,h1.2]
  ·simp[sO1,mO,h1.1,h1.2]
 ·have bT:yig P N fr H o=none:=by unfold yig;rw[zL h1]
  rw[bT];rfl
structure U6(P:Program)(N:Nat)(ops:Array Oper)(d:Option Nat)(r:List Oper)(fr:Fr)(H:Hp)(K:Fr->Hp->Prop)(g:Nat)(xs:List AV):Prop where
 out:aL P g xs fr H fun x fr' H'=>fO P N ops r (fput fr' d x) H' K
structure rF(P:Program)(N:Nat)(ops:Array Oper)(fr:Fr)(H:Hp)(K:Fr->Hp->Prop)(o:Oper)(r:List Oper):Prop where
 out:nS P N o fr H fun fr' H'=>fO P N ops r fr' H' K
def awLn(o:Oper)(r:List Oper):Prop:=match o.op with
 |.call {callee:= .value f,args:=args, .. }=>mF (evA fr f) fun g cap=>dok o.dst N=true/\U6 P N ops o.dst r fr H K g (args.toList.map (evA fr)++cap)
 |_=>mO (yig P N fr H o) (fun p q=>p/\fO P N ops r q.1 q.2 K) (rF P N ops fr H K o r)
theorem Sn(o:Oper)(r:List Oper):(nS P N o fr H fun fr' H'=>fO P N ops r fr' H' K)=awLn P N ops fr H K o r:=by
 by_cases hc:isCV o.op=false
 ·rw[y2i _ _ _ _ _ _ hc];have hS:Qy P N fr H (fun fr' H'=>fO P N ops r fr' H' K) o=rF P N ops fr H K o r:=propext ⟨fun h=>⟨h.out⟩,fun h=>⟨h.out⟩⟩;rw[hS];unfold awLn;revert hc;generalize ld:o.op=op;intro hc;cases op<;>try rfl
  case call c=>
   obtain⟨callee,args,ts⟩:=c;cases callee<;>first|rfl|(simp[isCV]at hc)
 ·unfold awLn;cases ld:o.op with
  |call c=>
   obtain⟨callee,args,ts⟩:=c;cases callee with
   |value f=>
    unfold nS sG;simp only[ld,cvOk,true_and,quF,opF,alF];unfold mF;cases evA fr f<;>first|rfl|(simp only[eq_iff_iff];exact⟨fun h=>⟨h.1,⟨h.2⟩⟩,fun h=>⟨h.1,h.2.out⟩⟩)
   |_=>rw[ld]at hc;simp[isCV]at hc
  |_=>rw[ld]at hc;simp[isCV]at hc
def mU(c b:Bool)(o:Oper)(r:List Oper)(j:Nat):Prop:=(c=b->awLn P N ops (gput ops fr j b) H K o r)/\(c= !b->dok o.dst N=true/\fO P N ops r (fput (gput ops fr j (!b)) o.dst (.tup [])) H K)
theorem y5y(o:Oper)(r:List Oper)(j:Nat):mU P N ops fr H K true true o r j=awLn P N ops (gput ops fr j true) H K o r:=by simp[mU]
theorem y5z(o:Oper)(r:List Oper)(j:Nat):mU P N ops fr H K false false o r j=awLn P N ops (gput ops fr j false) H K o r:=by simp[mU]
theorem y50(o:Oper)(r:List Oper)(j:Nat):mU P N ops fr H K true false o r j=(dok o.dst N=true/\fO P N ops r (fput (gput ops fr j true) o.dst (.tup [])) H K):=by simp[mU]
theorem y51(o:Oper)(r:List Oper)(j:Nat):mU P N ops fr H K false true o r j=(dok o.dst N=true/\fO P N ops r (fput (gput ops fr j false) o.dst (.tup [])) H K):=by simp[mU]
def lG(b:Bool)(o:Oper)(r:List Oper)(j:Nat)(c:Bool):Prop:=mU P N ops fr H K c b o r j
def lZ(o:Oper)(r:List Oper)(_:Unit):Prop:=dok o.dst N=true/\fO P N ops r (fput fr o.dst (.tup [])) H K
theorem lG_eq(b:Bool)(o:Oper)(r:List Oper)(j:Nat)(c:Bool):lG P N ops fr H K b o r j c=mU P N ops fr H K c b o r j:=rfl
theorem lZ_eq(o:Oper)(r:List Oper)(u:Unit):lZ P N ops fr H K o r u=(dok o.dst N=true/\fO P N ops r (fput fr o.dst (.tup [])) H K):=rfl
def awLg(o:Oper)(r:List Oper):Prop:=match o.guard with
 |none=>awLn P N ops fr H K o r
 |some (j,b)=>mG (gval ops fr j) (lG P N ops fr H K b o r j) (lZ P N ops fr H K o r)
theorem y52:fO P N ops [] fr H K=K fr H:=rfl
theorem y2j(o:Oper)(r:List Oper):fO P N ops (o::r) fr H K=awLg P N ops fr H K o r:=by
 unfold awLg mG lG lZ mU;simp only[fO];rcases o.guard with _|⟨j,b⟩
 ·exact Sn P N ops fr H K o r
 ·simp only;rcases gval ops fr j with _|_|_|_|_|(_|_)|_|_|_|_|_|_|_<;>first|rfl|(simp only[rC,Sn])
def Cw(b:Bool)(x y:Code):Prop:=(b=true->lB P N x fr H Q)/\(b=false->lB P N y fr H Q)
theorem y53(x y:Code):Cw P N fr H Q true x y=lB P N x fr H Q:=by simp[Cw]
theorem y54(x y:Code):Cw P N fr H Q false x y=lB P N y fr H Q:=by simp[Cw]
theorem y2k:lB P N .skip fr H Q=Q .normal fr H:=rfl
theorem y2l(i:Nat):lB P N (.region i ops false) fr H Q=Hx P N ops fr H (Q .normal):=rfl
theorem y2m(i:Nat):lB P N (.region i ops true) fr H Q=a8 P N i ops fr H Q:=rfl
theorem y55(x y:Code):lB P N (.seq x y) fr H Q=lB P N x fr H (yfx Q fun fr' H'=>oG P N y fr' H' Q):=rfl
theorem y2n(c:Operand)(x y:Code):lB P N (.cond c x y) fr H Q=mB (evA fr c) fun b=>Cw P N fr H Q b x y:=by
 unfold mB Cw;simp only[lB];cases evA fr c<;>first|rfl|(simp only[rC,Bool.not_true])
theorem yyl(i:Nat)(c:Code):lB P N (.block i c) fr H Q=lB P N c fr H (yeu i Q):=rfl
theorem y2o(c:Code):lB P N (.loop c) fr H Q=dr P N c fr H Q:=rfl
theorem y2p(i:Nat):lB P N (.exit i) fr H Q=Q (.exit i) fr H:=rfl
theorem y56:lB P N .ret fr H Q=Q .ret fr H:=rfl
theorem yym(l):lB P N (.label l) fr H Q=Q .normal fr H:=rfl
end
attribute [congr] y2f y2g y2h
attribute [go_sem] y5u y8z lG_eq lZ_eq y5v y5w y5x mF_fn ym8 sO1 sO2 yig isCV awLn y5y y5z y50 y51 y53 y54 awLg y52 y2j y2k y2l y2m y55 y2n yyl y2o y2p y56 yym
section
variable{P:Program}{N:Nat}{fr fr':Fr}{H H':Hp}
theorem yyn{o:Oper}{K:Fr->Hp->Prop}(h1:fr=fr')(h2:H=H'):nS P N o fr H K=nS P N o fr' H' K:=by rw[h1,h2]
theorem yyo{o:Oper}{K:Fr->Hp->Prop}(h1:fr=fr')(h2:H=H'):sG P N o fr H K=sG P N o fr' H' K:=by rw[h1,h2]
theorem yyp{ops:Array Oper}{r:List Oper}{K:Fr->Hp->Prop}(h1:fr=fr')(h2:H=H'):fO P N ops r fr H K=fO P N ops r fr' H' K:=by rw[h1,h2]
theorem yyq{ops:Array Oper}{K:Fr->Hp->Prop}(h1:fr=fr')(h2:H=H'):Hx P N ops fr H K=Hx P N ops fr' H' K:=by rw[h1,h2]
theorem yyr{c:Code}{Q:Exit->Fr->Hp->Prop}(h1:fr=fr')(h2:H=H'):lB P N c fr H Q=lB P N c fr' H' Q:=by rw[h1,h2]
theorem yys{c:Code}{Q:Exit->Fr->Hp->Prop}(h1:fr=fr')(h2:H=H'):oG P N c fr H Q=oG P N c fr' H' Q:=by rw[h1,h2]
theorem ytn{c:Code}{Q:Exit->Fr->Hp->Prop}(h1:fr=fr')(h2:H=H'):dr P N c fr H Q=dr P N c fr' H' Q:=by rw[h1,h2]
theorem yto{id:Nat}{ops:Array Oper}{Q:Exit->Fr->Hp->Prop}(h1:fr=fr')(h2:H=H'):a8 P N id ops fr H Q=a8 P N id ops fr' H' Q:=by rw[h1,h2]
theorem ytp{e:Exit}{Q:Exit->Fr->Hp->Prop}{K:Fr->Hp->Prop}(h1:fr=fr')(h2:H=H'):yfx Q K e fr H=yfx Q K e fr' H':=by rw[h1,h2]
theorem yoi{id:Nat}{e:Exit}{Q:Exit->Fr->Hp->Prop}(h1:fr=fr')(h2:H=H'):yeu id Q e fr H=yeu id Q e fr' H':=by rw[h1,h2]
theorem ywo{rs:List ResultVar}{K:AV->Fr->Hp->Prop}{e:Exit}(h1:fr=fr')(h2:H=H'):retI P rs K e fr H=retI P rs K e fr' H':=by rw[h1,h2]
end
attribute [congr] y2e yx6 ytk ytl yyn yyo yyp yyq yyr yys ytn yto ytp yoi ywo
attribute [go_sem] y8m
section
variable{P:Program}{B:Nat}{w0:js}{Mx:Nat->Prop}{N:Nat}{w:World}{ρ:Nat->Addr}{fr:Fr}{H:Hp}{a:Act}
theorem aO.congr(h:aO B w0 Mx N w ρ fr H a){fr':Fr}{H':Hp}(hf:∀t,fget fr' t=fget fr t)(hh:∀i,hget H' i=hget H i):aO B w0 Mx N w ρ fr' H' a:=by
 have eM:MM Mx H' ρ=MM Mx H ρ:=by funext b;unfold MM;simp only[hh]
 have eD:DD H'=DD H:=by funext b;unfold DD;simp only[hh]
 exact⟨h.below,h.hB,h.mx,fun id o g=>h.own id o (by rw[<-hh];exact g),fun id o g=>by rw[eM,eD];exact h.objs id o (by rw[<-hh];exact g),fun id o bO o' g1 g2 g3 g4=>h.inj id o bO o' (by rw[<-hh];exact g1) g2 (by rw[<-hh];exact g3) g4,fun t=>by rw[eM,eD,hf];exact h.frv t,h.defers,h.size⟩
theorem aO.Fm(h:aO B w0 Mx N w ρ fr H a){fr':Fr}(hf:∀t,fget fr' t= .any\/fget fr' t=fget fr t):aO B w0 Mx N w ρ fr' H a:=
 ⟨h.below,h.hB,h.mx,h.own,h.objs,h.inj,fun t=>by
  rcases hf t with e|e
  ·rw[e];exact .any _
  ·rw[e];exact h.frv t,h.defers,h.size⟩
theorem aO.Bl(h:aO B w0 Mx N w ρ fr H a){fr':Fr}(hf:∀t,VR w (MM Mx H ρ) ρ (DD H) (gv w0 a t) (fget fr' t)):aO B w0 Mx N w ρ fr' H a:=
 ⟨h.below,h.hB,h.mx,h.own,h.objs,h.inj,hf,h.defers,h.size⟩
theorem aO.sub(h:aO B w0 Mx N w ρ fr H a){H':Hp}(hH:∀i o,hget H' i=some o->hget H i=some o)(hO:∀i o,hget H' i=some o->sO H' o=true){fr':Fr}(hf:∀t,fget fr' t= .any\/(fget fr' t=fget fr t/\s3 H' (fget fr' t)=true)):
  ∃My:Nat->Prop,MM My H' ρ=MM Mx H ρ/\aO B w0 My N w ρ fr' H' a:=by
 let My:Nat->Prop:=fun b=>MM Mx H ρ b/\ ¬ ∃i o,hget H' i=some o/\o.live=true/\(ρ i).block=b
 have hM:MM My H' ρ=MM Mx H ρ:=by
  funext b;apply propext;constructor
  ·rintro (h1|⟨i,o,h1,h2,h3⟩)
   ·exact h1.1
   ·exact .inr ⟨i,o,hH i o h1,h2,h3⟩
  ·intro hb;by_cases hx:∃i o,hget H' i=some o/\o.live=true/\(ρ i).block=b
   ·exact .inr hx
   ·exact .inl ⟨hb,hx⟩
 refine⟨My,hM,h.below,h.hB,fun b hb=>h.mb b hb.1,fun i o h1 h2=>⟨(h.own i o (hH i o h1) h2).1,fun hh=>hh.2 ⟨i,o,h1,h2,rfl⟩⟩,fun i o h1=>?_,fun i o i' o' h1 h2 h3 h4 h5=>h.inj i o i' o' (hH _ _ h1) h2 (hH _ _ h3) h4 h5,fun t=>?_,h.defers,h.size⟩
 ·rw[hM];have hr:=h.objs i o (hH i o h1);have my:=hO i o h1;cases o with
  |gone=>trivial
  |cells t c=>
   obtain⟨k1,arr,k2,k3,k4⟩:=hr;refine⟨k1,arr,k2,k3,fun j hj=>?_⟩;obtain⟨u,hu,hv⟩:=k4 j hj;refine⟨u,hu,?_⟩;cases c with
   |ints l=>exact hv.bP rfl
   |bools l=>exact hv.bP rfl
   |lst l=>
    simp only[Cs.len]at hj;simp only[Cs.get,zB,zJ hj,Option.getD_some]at hv⊢;exact hv.qm (zZ.1 my _ (List.getElem_mem hj))
  |gmap t ck l=>
   obtain⟨es,k1,k2,k3⟩:=hr;exact⟨es,k1,k2,fun j e q he hl=>let ⟨g1,g2,g3⟩:=k3 j e q he hl;⟨g1,g2,g3.qm (zZ.1 my q (zQ hl))⟩⟩
  |iter dB s sn la=>
   obtain⟨_,k2,k3⟩:=hr;exact⟨Option.isSome_iff_exists.1 my,k2,k3⟩
  |imap t l=>
   obtain⟨k0,es,ck,k1,k2,k3⟩:=hr;exact⟨k0,es,ck,k1,k2,fun j e k x he hl=>let ⟨g1,g2,g3⟩:=k3 j e k x he hl;⟨g1,g2.qm (zZ.1 my (k,x) (zQ hl)),g3⟩⟩
  |fmap t c=>exact hr
 ·rw[hM];rcases hf t with e|⟨e1,e2⟩
  ·rw[e];exact .any _
  ·exact VR.qm (D:=DD H) (by rw[e1];exact h.frv t) e2
theorem VR.laid(h:aO B w0 Mx N w ρ fr H a){aP:Nat}(hn:hget H aP=none){rE:Obj}{o:AObj}{v:Value}{x:AV}(hv:VR w (MM Mx H ρ) ρ (DD H) v x):
  VR (w.alloc rE) (MM Mx ((aP,o)::H) (e8 ρ aP ⟨w.heap.size,0,none⟩)) (e8 ρ aP ⟨w.heap.size,0,none⟩) (DD ((aP,o)::H)) v x:=by
 have fJ:(w.alloc rE).heap.size=w.heap.size+1:=by show (w.heap.push rE).size=_;simp
 have aJ:∀id o',hget H id=some o'->id≠aP:=fun id o' h1 h2=>by subst h2;rw[hn]at h1;cases h1
 refine hv.carry (by omega) (fun b hb hm=>⟨xW hb,?_⟩) (fun id hd=>?_)
 ·rintro (h1|⟨id,o',h1,h2,h3⟩)
  ·exact hm (.inl h1)
  ·simp only[hget]at h1
   split at h1
   ·rename_i e;subst e;rw[j9]at h3;simp at h3;omega
   ·rename_i e;rw[od _ _ (fun h=>e h.symm)]at h3;exact hm (.inr ⟨id,o',h1,h2,h3⟩)
 ·obtain⟨o',As⟩:=hd
  have:=aJ id o' As
  exact⟨⟨o',by simp only[hget];rw[zL (fun h=>this h.symm)];exact As⟩,od _ _ this,fun arr t ha=>⟨arr,(xW (gA ha)).trans ha,rfl⟩⟩
end
def apG(P:Program)(aP:Nat)(H:Hp)(t:Nat)(s x:AV):Option (Prop×AV×Option Nat×AObj):=
 match tk P t with
 |.slice e=>match tsz P e,tby P e,tze P e with
  |some es,some ui,some z=>if 0<es/\ui<=1048576/\z.length=es then
   match srcF H es x with
   |some (q,m,d)=>match s with
    |.nils=>match d with
     |some d=>some (q/\0<m/\m<=1048576,.sl es aP 0 m,none,.cells e d)
     |none=>none
    |.sl eJ id off len=>match hget H id with
     |some (.cells t' c)=>if es=eJ/\t'=e/\n2E d=true then
      some (q/\off+len*es=c.len/\len+m<=1048576,.sl es aP 0 (len+m),some id,.cells e (jm (c.drop off) d)) else none
     |_=>none
    |_=>none
   |none=>none
   else none
  |_,_,_=>none
 |_=>none
where n2E:Option Cs->Bool
 |some (.lst l)=>l.all ycg
 |_=>true
def hgo(H:Hp):Option Nat->Hp
 |none=>H
 |some id=>hset H id .gone
section
variable{P:Program}{B:Nat}{w0:js}{Mx:Nat->Prop}{N:Nat}{w:World}{ρ:Nat->Addr}{fr:Fr}{H:Hp}{a:Act}
theorem aO.gone(h:aO B w0 Mx N w ρ fr H a){id:Nat}{o:AObj}(hid:hget H id=some o)(hl:o.live=true):
  aO B w0 (fun b=>Mx b\/b=(ρ id).block) N w ρ fr (hset H id .gone) a/\MM (fun b=>Mx b\/b=(ρ id).block) (hset H id .gone) ρ=MM Mx H ρ/\DD (hset H id .gone)=DD H:=by
 have key:∀i q,hget (hset H id .gone) i=some q->q.live=true->i≠id/\hget H i=some q:=fun i q h1 h2=>by
  by_cases e:id=i
  ·subst e;rw[uB hid]at h1;cases h1;cases h2
  ·rw[ka e]at h1;exact⟨Ne.symm e,h1⟩
 have hM:MM (fun b=>Mx b\/b=(ρ id).block) (hset H id .gone) ρ=MM Mx H ρ:=by
  funext b;apply propext;constructor
  ·rintro ((h1|h1)|⟨i,q,h1,h2,h3⟩)
   ·exact .inl h1
   ·exact .inr ⟨id,o,hid,hl,h1.symm⟩
   ·exact .inr ⟨i,q,(key i q h1 h2).2,h2,h3⟩
  ·rintro (h1|⟨i,q,h1,h2,h3⟩)
   ·exact .inl (.inl h1)
   ·by_cases e:id=i
    ·subst e;exact .inl (.inr h3.symm)
    ·exact .inr ⟨i,q,by rw[ka e];exact h1,h2,h3⟩
 have hD:DD (hset H id .gone)=DD H:=by funext i;exact propext (Ex hid i)
 refine⟨⟨h.below,h.hB,fun b hb=>?_,fun i q h1 h2=>?_,fun i q h1=>?_,fun i q i' q' h1 h2 h3 h4 h5=>h.inj i q i' q' (key i q h1 h2).2 h2 (key i' q' h3 h4).2 h4 h5,fun t=>by rw[hM,hD];exact h.frv t,h.defers,h.size⟩,hM,hD⟩
 ·rcases hb with h1|h1
  ·exact h.mx b h1
  ·rw[h1];exact(h.objs id o hid).lt hl
 ·obtain⟨aJ,g1⟩:=key i q h1 h2;exact⟨(h.own i q g1 h2).1,fun hh=>by
   rcases hh with hh|hh
   ·exact(h.own i q g1 h2).2 hh
   ·exact aJ (h.inj i q id o g1 h2 hid hl hh)⟩
 ·rw[hM,hD];by_cases e:id=i
  ·subst e;rw[uB hid]at h1;cases h1;trivial
  ·rw[ka e]at h1;exact h.objs i q h1
theorem XR(h:aO B w0 Mx N w ρ fr H a){aP t ty:Nat}(hn:hget H aP=none){s x:AV}{u v:Value}{p:Prop}{r:AV}{g:Option Nat}{ob:AObj}(hu:VR w (MM Mx H ρ) ρ (DD H) u s)(hv:VR w (MM Mx H ρ) ρ (DD H) v x)
  (ha:apG P aP H t s x=some (p,r,g,ob)) (hp:p):∃z w' ρ',(Builtin.append_ #[t,t] ty #[u,v]).run P w= .ok z w'/\aO B w0 Mx N w' ρ' fr ((aP,ob)::hgo H g) a/\VR w' (MM Mx ((aP,ob)::hgo H g) ρ') ρ' (DD ((aP,ob)::hgo H g)) z r:=by
 unfold apG at ha
 split at ha
 ·rename_i e hk
  have ht:=kl hk
  split at ha
  ·rename_i es ui z h1 h2 h3
   split at ha
   ·rename_i hh
    obtain⟨eR,BZ,hz⟩:=hh;obtain⟨i,zv,i1,i2,i3⟩:=xT h3;obtain⟨i',i4,i5⟩:=Mv h2;rw[i1]at i4;cases i4;obtain⟨i',i6,i7⟩:=Jc h1;rw[i1]at i6;cases i6;have xr:zv.cells.size=es:=by have:=congrArg List.length i3;simp at this;omega
    split at ha
    ·rename_i q m d hsrc
     split at ha
     ·split at ha
      ·rename_i d
       cases ha;obtain⟨hq,hm,dw⟩:=hp;obtain⟨A,c,news,rfl,oT,ni,xm,xl,Ae⟩:=EY h.objs hv hsrc hq;have e:=hu.cd;subst e;obtain⟨ad,rfl⟩:∃ad,A=some ad:=by
        cases A with
        |none=>have:=xm rfl;omega
        |some ad=>exact⟨ad,rfl⟩
       have B1:m*i.bytes<=281474976710656:=by
        have:m*i.bytes<=1048576*1048576:=Nat.mul_le_mul (by omega) (by omega)
        omega
       have hr:=run_append_nil (P:=P) w t ty e i zv ht i1 i2 ad m c news (by rw[i7];exact oT) (xl ad rfl) hm (by omega) B1;have BS:=h.draw;simp only[fI]at ni;have nN:m<=grownCap w m 0 e:=by unfold grownCap;simp only[Question.cut];omega
       have mS:(news.toArray++Builtin.zeroCells zv.cells (grownCap w m 0 e-m)).size=grownCap w m 0 e*es:=by
        simp only[Array.size_append,Builtin.zeroCells,Array.size_map,Array.size_range,List.size_toArray,oT,xr];rw[<-Nat.add_mul];congr 1;omega
       have dz:=BS.b9 aP hn (news.toArray++Builtin.zeroCells zv.cells (grownCap w m 0 e-m)) e d (by rw[mS,ni];exact Nat.mul_le_mul_right _ nN) (fun j hj=>by
        have gU:j<news.length:=by omega
        refine⟨news[j],by rw[Array.getElem?_append_left (by simpa using gU)];simp[gU],?_⟩
        have:=Ae j news[j] (zJ gU)
        exact this.carry (w':={w with drawn:=w.drawn+1}) (zA _) (fun _ _ hm=>⟨rfl,hm⟩) (fun id hd=>⟨hd,rfl,fun arr t ha=>⟨arr,ha,rfl⟩⟩))
       exact⟨_,_,_,hr,dz,Da (w:={w with drawn:=w.drawn+1}) nN (by rw[mS];exact zA _)⟩
      ·cases ha
     ·rename_i eJ id off len
      split at ha
      ·rename_i t' c ho
       split at ha
       ·rename_i hcond
        obtain⟨rfl,rfl,BN⟩:=hcond;cases ha;obtain⟨hq,o9,dw⟩:=hp;obtain⟨A,cx,news,rfl,oT,ni,xm,xl,Ae⟩:=EY h.objs hv hsrc hq;obtain⟨gX,sH,wF,wc,BV⟩:=h.objs id _ ho;obtain⟨wx,Ko,Xl⟩:=h.gone ho rfl;have wk:hget (hset H id .gone) aP=none:=by
         by_cases e:id=aP
         ·subst e;rw[ho]at hn;cases hn
         ·rw[ka e];exact hn
        have dN:(c.drop off).len=len*es:=by rw[Cs.jF];omega
        have mL:∀j u,news[j]?=some u->VR w (MM Mx H ρ) ρ (DD H) u (mW d j)/\iZ u:=fun j u hu=>by
         have g:=Ae j u hu;have hj:j<fI d:=by
          have:j<news.length:=by
           rcases zY j news.length with g|g
           ·exact g
           ·rw[zS g]at hu;cases hu
          omega
         refine⟨g,?_⟩;cases d with
         |none=>simp[fI]at hj
         |some d=>
          cases d with
          |ints l=>exact g.iZ rfl
          |bools l=>exact g.iZ rfl
          |lst l=>
           simp only[fI,Cs.len]at hj;have hx:=zZ.1 BN _ (List.getElem_mem hj);simp only[mW,Cs.get,zB,zJ hj,Option.getD_some]at g;exact g.iZ hx
        have qR:∀j,j<len*es->∃u,sH[(ρ id).off+off+j]?=some u/\VR w (MM Mx H ρ) ρ (DD H) u ((c.drop off).get j):=fun j hj=>by
         obtain⟨u,g1,g2⟩:=BV (off+j) (by omega);exact⟨u,by rw[Nat.add_assoc];exact g1,by rw[Cs.mV];exact g2⟩
        cases hu with
        |sl es id off len cap hd nN arr t ad0 ha0 hb hr=>
         rw[wF]at hb;cases hb;have mR:(ρ id).add off=⟨(ρ id).block,(ρ id).off+off,none⟩:=xh gX off;by_cases mM:len+m<=cap
         ·have hf:=UO (P:=P) (w:=w) (es:=es) (n:=m) (c:=cx) (A:=A) (news:=news) oT xl xm;have Gd:(ρ id).off+off+len*es+news.length<=sH.size:=by
           rw[oT]
           have:(len+m)*es<=cap*es:=Nat.mul_le_mul_right _ mM
           rw[Nat.add_mul]at this;omega
          obtain⟨w',bA,r1,r2,r3,r4,r5,r6,r7,r8,r9⟩:=Jx (P:=P) (b:=(ρ id).block) (t:=t') (o:=(ρ id).off+off+len*es) news 0 w sH wF (by omega) (fun u hu=>by
           obtain⟨j,hj⟩:=List.mem_iff_getElem?.1 hu;exact(mL j u hj).2)
          have wD:((ρ id).add off).add (len*es)=⟨(ρ id).block,(ρ id).off+off+len*es,none⟩:=by rw[mR,xh rfl]
          have aU:=UN (P:=P) (w:=w) (ty:=ty) (w':=w') ht h1 ad0 len cap m cx A news hf mM (by
           by_cases rA:0<cap
           ·rw[ha0 rA,wD];exact r1
           ·have DE:news=[]:=zT (by rw[oT,show m=0 by omega];simp);subst DE;simp[storeCells]at r1⊢;exact r1)
          have B2:=wx.attach (My:=Mx) (id:=aP) (b:=(ρ id).block) (t:=t') (off:=(ρ id).off+off) (c:=jm (c.drop off) d) wk (fun x=>Iff.rfl) (h.own id _ ho rfl).2 (h.own id _ ho rfl).1 wF r2 r3 r4 r5 r6 r7 r8
           (by rw[zm,dN,ni,r3]
               have:(len+m)*es<=cap*es:=Nat.mul_le_mul_right _ mM
               rw[Nat.add_mul]at this;omega) (fun j hj=>by
            rw[Ko,Xl];rw[zm,dN,ni]at hj;rw[Ja _ _ _ (by rw[dN,ni];exact hj),dN,r9];by_cases c1:j<len*es
            ·rw[zM c1,zL (by omega)];exact qR j c1
            ·rw[zL c1,zM (by omega)];have e1:(ρ id).off+off+j-((ρ id).off+off+len*es+0)=j-len*es:=by omega
             rw[e1];have aC:j-len*es<news.length:=by omega
             exact⟨news[j-len*es],zJ aC,(mL _ _ (zJ aC)).1⟩)
          refine⟨_,w',_,aU,B2,?_⟩;exact VR.sl es aP 0 (len+m) cap Ek mM bA t' ad0 (fun rA=>by rw[j9,ha0 rA,mR];rfl) (by rw[j9];exact r2) (by rw[j9,r3];simpa using hr)
         ·have vY:∃fm:List Value,fm.length=len*es/\ ∀(j:Nat) (u:Value),fm[j]?=some u->w.cell? (((ρ id).add off).add j)=some u/\VR w (MM Mx H ρ) ρ (DD H) u ((c.drop off).get j):=by
           have hx:∀j,∃u,j<len*es->w.cell? (((ρ id).add off).add j)=some u/\VR w (MM Mx H ρ) ρ (DD H) u ((c.drop off).get j):=fun j=>by
            by_cases hj:j<len*es
            ·obtain⟨u,g1,g2⟩:=qR j hj;exact⟨u,fun _=>⟨by rw[mR,xh rfl];simp[World.cell?,wF,g1],g2⟩⟩
            ·exact⟨undef,fun h=>zzA h hj⟩
           obtain⟨g,hg⟩:=Classical.axiomOfChoice hx;refine⟨(List.range (len*es)).map g,by simp,fun j u hu=>?_⟩;simp only[zR]at hu;by_cases hj:j<len*es
           ·simp[List.getElem?_range hj]at hu;subst hu;exact hg j hj
           ·simp[zS (l:=List.range (len*es)) (i:=j) (by simp;omega)]at hu
          obtain⟨fm,o1,o2⟩:=vY;have Gl:0<m:=by omega
          obtain⟨ad,rfl⟩:∃ad,A=some ad:=by
           cases A with
           |none=>have:=xm rfl;omega
           |some ad=>exact⟨ad,rfl⟩
          have wq:Builtin.nextslicecap (len+m) cap*i.bytes<=281474976710656:=growslice_fits (by omega) (by
           have:(len+m)*i.bytes<=1048576*1048576:=Nat.mul_le_mul (by omega) (by omega)
           omega)
          have ik:=run_append_grow (P:=P) w t ty t' i zv ht i1 i2 ad0 len cap fm (by rw[i7];exact o1) (fun j u hu=>by
           have dH:j<fm.length:=by
            rcases zY j fm.length with g|g
            ·exact g
            ·rw[zS g]at hu;cases hu
           have wc:0<len:=by
            rcases Nat.eq_zero_or_pos len with e|e
            ·subst e;simp at o1;simp[o1]at dH
            ·exact e
           rw[ha0 (by omega)];exact(o2 j u hu).1) ad m cx news (by rw[i7];exact oT) (xl ad rfl) (by omega) (by omega) wq
          have qZ:len+m<=grownCap w (len+m) cap t':=by unfold grownCap;simp only[Question.cut];omega
          have mS:(fm.toArray++news.toArray++Builtin.zeroCells zv.cells (grownCap w (len+m) cap t'-(len+m))).size=grownCap w (len+m) cap t'*es:=by
           simp only[Array.size_append,Builtin.zeroCells,Array.size_map,Array.size_range,List.size_toArray,oT,o1,xr];rw[<-Nat.add_mul,<-Nat.add_mul];congr 1;omega
          have BS:=(wx.allow (My:=Mx) (fun b hb=> .inl hb)).draw;have AJ:∀b,MM Mx (hset H id .gone) ρ b->MM Mx H ρ b:=fun b hb=>by rw[<-Ko];exact hb.imp .inl (fun h=>h)
          have BX:∀{v:Value} {x:AV},VR w (MM Mx H ρ) ρ (DD H) v x->VR {w with drawn:=w.drawn+1} (MM Mx (hset H id .gone) ρ) ρ (DD (hset H id .gone)) v x:=fun hv=>
           hv.carry (w':={w with drawn:=w.drawn+1}) (zA _) (fun b _ hm=>⟨rfl,fun hh=>hm (AJ b hh)⟩) (fun k hd=>⟨by rw[Xl];exact hd,rfl,fun arr t ha=>⟨arr,ha,rfl⟩⟩)
          have dz:=BS.b9 aP wk (fm.toArray++news.toArray++Builtin.zeroCells zv.cells (grownCap w (len+m) cap t'-(len+m))) t' (jm (c.drop off) d)
           (by rw[mS,zm,dN,ni,<-Nat.add_mul];exact Nat.mul_le_mul_right _ qZ) (fun j hj=>by
            rw[zm,dN,ni]at hj;rw[Ja _ _ _ (by rw[dN,ni];exact hj),dN];by_cases c1:j<len*es
            ·rw[zM c1];have aC:j<fm.length:=by omega
             exact⟨fm[j],by rw[Array.getElem?_append_left (by simp;omega),Array.getElem?_append_left (by simpa using aC)];simp[aC],BX (o2 j _ (zJ aC)).2⟩
            ·rw[zL c1];have aC:j-len*es<news.length:=by omega
             exact⟨news[j-len*es],by rw[Array.getElem?_append_left (by simp;omega),Array.getElem?_append_right (by simp;omega)];simp[o1,aC],BX (mL _ _ (zJ aC)).1⟩)
          exact⟨_,_,_,ik,dz,Da (w:={w with drawn:=w.drawn+1}) qZ (by rw[mS];exact zA _)⟩
       ·cases ha
      ·cases ha
     ·cases ha
    ·cases ha
   ·cases ha
  ·cases ha
 ·cases ha
end
def ycm:Op->Bool
 |.move _|.assign _|.pick .. |.binOp .. |.unOp .. |.fieldAddr .. |.field .. |.indexAddr .. |.extract .. |.nilCheck _|.convert .. |.makeFunc .. |.build .. |.slice .. =>true
 |.call {callee:= .builtin .len, .. }|.call {callee:= .builtin .cap, .. }|.call {callee:= .builtin .min, .. }|.call {callee:= .builtin .max, .. }=>true
 |_=>false
def loud:Op->Bool
 |.store .. =>true
 |.insert .. =>true
 |.call {callee:= .builtin .append, .. }=>true
 |_=>false
def ydw:Op->Bool
 |.insert .. =>true
 |_=>false
def insO(H:Hp)(id:Nat)(n x:Int):Option AObj->Hp
 |some (.fmap t (.ints g))=>hset H id (.fmap t (.ints (updI g n x)))
 |_=>H
def insE(H:Hp)(id:Nat)(n x:Int):Hp:=insO H id n x (hget H id)
def inO(id:Nat)(n x:Int):Option AObj->Option (Prop×Nat×Int×Int)
 |some (.fmap _ (.ints g))=>some (g n=none,id,n,x)
 |_=>none
def inK(H:Hp):TK->AV->AV->AV->Option (Prop×Nat×Int×Int)
 |.int .i64,.mp id,.int .i64 n,.int .i64 x=>inO id n x (hget H id)
 |_,_,_,_=>none
def inF(P:Program)(H:Hp)(t:Nat)(m k v:AV):Option (Prop×Nat×Int×Int):=match tk P t with
 |.map kt _=>inK H (tk P kt) m k v
 |_=>none
theorem Yq{P:Program}{H H':Hp}{ev:Operand->AV}{o:Op}(h:ycm o=true):quF P H ev o=quF P H' ev o:=by
 cases o with
 |call c=>
  obtain⟨callee,args,ts⟩:=c;cases callee with
  |builtin b=>cases b<;>first|rfl|cases h
  |_=>cases h
 |slice t x lo hi mx=>cases mx<;>rfl
 |makeFunc fn _ _=>cases fn<;>rfl
 |_=>first|rfl|cases h
def rn(o:Oper):List Nat:=(o.after.toList.filter fun e=>Region.binds .any e).map (·.on)
def yZ:List Oper->List (List Nat)->List (List Nat)
 |[],iM=>iM
 |o::r,iM=>yZ r (iM++[((rn o).flatMap fun i=>i::iM.getD i []).eraseDups])
def iU(ops:Array Oper):List (List Nat):=yZ ops.toList []
def cD(ex:List Nat):Fr->Fr
 |[]=>[]
 |(t,x)::r=>(t,if ex.contains t then .any else x)::cD ex r
def yai(dl:List Nat):Hp->Hp
 |[]=>[]
 |(i,o)::r=>if dl.contains i then yai dl r else (i,o)::yai dl r
theorem EL(ex:List Nat)(fr:Fr)(t:Nat):fget (cD ex fr) t=if ex.contains t then .any else fget fr t:=by
 induction fr with
 |nil=>simp[cD,fget]
 |cons p r ih=>
  obtain⟨s,x⟩:=p;simp only[cD,fget];by_cases h:s=t
  ·subst h;simp
  ·simp only[h,if_false];exact ih
theorem Ug(dl:List Nat)(H:Hp)(i:Nat):hget (yai dl H) i=if dl.contains i then none else hget H i:=by
 induction H with
 |nil=>simp[yai,hget]
 |cons p r ih=>
  obtain⟨s,x⟩:=p;simp only[yai];by_cases h1:dl.contains s
  ·rw[zM h1,ih];by_cases h:s=i
   ·subst h;rw[zM h1,zM h1]
   ·simp[hget,h]
  ·rw[zL h1];simp only[hget];by_cases h:s=i
   ·subst h;simp only[if_true];rw[zL h1]
   ·simp only[h,if_false];exact ih
def nC(H:Hp):Fr->Fr
 |[]=>[]
 |(t,x)::r=>(t,if s3 H x then x else .any)::nC H r
theorem Te(H:Hp)(fr:Fr)(t:Nat):fget (nC H fr) t= .any\/(fget (nC H fr) t=fget fr t/\s3 H (fget (nC H fr) t)=true):=by
 induction fr with
 |nil=>exact .inl rfl
 |cons p r ih=>
  obtain⟨s,x⟩:=p;simp only[nC,fget];by_cases h:s=t
  ·subst h;simp only[if_true];by_cases h2:s3 H x=true
   ·simp[h2]
   ·simp[h2]
  ·simp only[h,if_false];exact ih
def kL:Op->Option Nat
 |.store _ (.tmp d) _=>some d
 |_=>none
def tG(ops:Array Oper)(d:Nat):Bool:=ops.toList.all fun o=>o.dst !=some d
def ze(ops:Array Oper):Option Nat->Option Nat->Bool
 |some a,some b=>a !=b&&tG ops a&&tG ops b
 |_,_=>false
def w5(ops:Array Oper)(x y:Op):Bool:=ze ops (kL x) (kL y)
def Ih(ops:Array Oper):List Nat:=ops.toList.filterMap fun o=>kL o.op
def sepV:AV->AV->Bool
 |.ptr x _,.ptr y _=>x !=y
 |_,_=>false
def sep2(fr:Fr)(a b:Nat):Bool:=a==b||sepV (fget fr a) (fget fr b)
def sepF(fr:Fr)(l:List Nat):Bool:=l.all fun a=>l.all fun b=>sep2 fr a b
def AW:Op->Bool
 |.load .. =>true
 |.call {callee:= .value _, .. }=>true
 |_=>false
def Sm:Op->Bool
 |.alloc _=>true
 |_=>false
def ud(ops:Array Oper)(i j:Nat):Bool:=match (ops.getD j default).op with
 |.store _ (.tmp a) _=>(List.range ops.size).any fun k=>decide (i<k)&&((iU ops).getD j []).contains k&&(ops.getD k default).dst==some a&&Sm (ops.getD k default).op&&(List.range ops.size).all fun q=>q==k||(ops.getD q default).dst !=some a
 |_=>false
def bk(base k:Nat):Nat:=if k<1000000 then base+k else k-1000000
attribute [go_sem] bk
theorem KU{base k:Nat}(h:k<1000000):bk base k=base+k:=zM h
theorem Hv{base k:Nat}:bk base (1000000+k)=k:=by unfold bk;rw[zL (by omega)];omega
def ue(ops:Array Oper)(al ids:List Nat)(dl:List (List Nat))(i j:Nat):Bool:=decide (i<j)&&(match (ops.getD j default).op with
 |.store _ (.tmp a) _=>al.contains a&&(List.range ops.size).all fun q=>(ops.getD q default).dst !=some a
 |_=>false)&&ids.all fun id=>(dl.getD i []).contains (1000000+id)
def sF(al ids:List Nat)(ops:Array Oper)(ex dl:List (List Nat)):Bool:=decide (ops.size<=1000000)&&
 (
 let iM:=iU ops
 let n:=ops.size
 (List.range n).all fun j=>(List.range n).all fun i=>(i==j||
  (let before:=(iM.getD j []).contains i
   let after:=(iM.getD i []).contains j
   (before||after||(match (ops.getD i default).dst with|some d=>(ex.getD j []).contains d|none=>true))&&
   (before|| !decide (i<j)||(dl.getD j []).contains i)&&
   (ycm (ops.getD i default).op|| !loud (ops.getD j default).op||before||loud (ops.getD i default).op||(AW (ops.getD i default).op&&(dl.getD i []).contains i&&(ud ops i j||ue ops al ids dl i j)))&&
   (!loud (ops.getD i default).op|| !loud (ops.getD j default).op||before||after||(ydw (ops.getD i default).op&&ydw (ops.getD j default).op)||w5 ops (ops.getD i default).op (ops.getD j default).op)&&
   (!ydw (ops.getD i default).op|| !loud (ops.getD j default).op||ydw (ops.getD j default).op)&&
   (before||after||(ops.getD i default).dst !=(ops.getD j default).dst||(ops.getD i default).dst==none)))&&(!before0 iM i j||decide (i<j))&&((rn (ops.getD j default)).all fun e=>decide (e<j)))
where before0 (iM:List (List Nat)) (i j:Nat):Bool:=(iM.getD j []).contains i
def Hu(ops:Array Oper)(ex dl:List (List Nat)):Bool:=sF [] [] ops ex dl
def LS(ops:Array Oper):Bool:=decide (0<ops.size)&&(ops.getD (ops.size-1) default).guard.isNone&&(List.range (ops.size-1)).all fun i=>((iU ops).getD (ops.size-1) []).contains i
def HQ(ops:Array Oper):Bool:=
 let iM:=iU ops
 (List.range ops.size).all fun j=>(List.range ops.size).all fun i=>i==j|| !w5 ops (ops.getD i default).op (ops.getD j default).op||(iM.getD j []).contains i||(iM.getD i []).contains j
def eI(P:Program)(N:Nat)(ops:Array Oper)(base:Nat):Nat->List Oper->List (List Nat)->List (List Nat)->Fr->Hp->(Fr->Hp->Prop)->Prop
 |_,[],_,_,fr,H,K=>K fr H
 |_,_::_,[],_,_,_,_=>False
 |_,_::_,_::_,[],_,_,_=>False
 |j,o::r,ex::bK,dl::bL,fr,H,K=>match o.guard with
  |none=>awDO P N base j o ex dl fr H fun fr' H'=>eI P N ops base (j+1) r bK bL fr' H' K
  |some (g,b)=>match gval ops (cD ex fr) g with
   |.bool c=>rC c b (awDO P N base j o ex dl fr H fun fr' H'=>eI P N ops base (j+1) r bK bL fr' H' K) (dok o.dst N=true/\eI P N ops base (j+1) r bK bL (fput fr o.dst (.tup [])) H K)
   |.tup []=>dok o.dst N=true/\eI P N ops base (j+1) r bK bL (fput fr o.dst (.tup [])) H K
   |_=>False
where
 awDO (P:Program) (N base j:Nat) (o:Oper) (ex dl:List Nat) (fr:Fr) (H:Hp) (K:Fr->Hp->Prop):Prop:=
  cvOk P o.op=true/\dok o.dst N=true/\if ycm o.op then (match quF P H (evA (cD ex fr)) o.op with
   |some (p,r)=>p/\K (fput fr o.dst r) H
   |none=>False)
  else match quF P (yai (dl.map (bk base)) H) (evA (nC (yai (dl.map (bk base)) H) (cD ex fr))) o.op with
   |some (p,r)=>(yai (dl.map (bk base)) H).all (fun q=>sO (yai (dl.map (bk base)) H) q.2)=true/\p/\K (fput fr o.dst r) H
   |none=>match alF P (base+j) (evA (cD ex fr)) o.op with
    |some (p,r,ob)=>p/\K (fput fr o.dst r) ((base+j,ob)::H)
    |none=>match o.op with
     |.store t x y=>match stF P H t (evA (cD ex fr) x) (evA (cD ex fr) y) with
      |some (p,id,ob)=>p/\K (fput fr o.dst .any) (hset H id ob)
      |none=>False
     |.insert t m k v=>match inF P H t (evA (cD ex fr) m) (evA (cD ex fr) k) (evA (cD ex fr) v) with
      |some (p,id,n,x)=>p/\K (fput fr o.dst .any) (insE H id n x)
      |none=>False
     |.call {callee:= .builtin .append,args:=args,argTypes:=ts}=>match args.toList,ts.toList with
      |[s,x],[t,t']=>t=t'/\match apG P (base+j) H t (evA (cD ex fr) s) (evA (cD ex fr) x) with
       |some (p,r,g,ob)=>p/\K (fput fr o.dst r) ((base+j,ob)::hgo H g)
       |none=>False
      |_,_=>False
     |.call {callee:= .value f,args:=args, .. }=>match evA (nC (yai (dl.map (bk base)) H) (cD ex fr)) f with
      |.fn g cap=>(yai (dl.map (bk base)) H).all (fun q=>sO (yai (dl.map (bk base)) H) q.2)=true/\Cx P g (args.toList.map (evA (nC (yai (dl.map (bk base)) H) (cD ex fr)))++cap) (yai (dl.map (bk base)) H) (base+j) (fun r=>K (fput fr o.dst r) H) (fun r ob=>(!(dl.map (bk base)).contains (base+j))=true/\K (fput fr o.dst r) ((base+j,ob)::H))
      |_=>False
     |_=>False
inductive ed where
 |skip
 |quiet (r:AV)
 |alloc (r:AV) (ob:AObj)
 |store (id:Nat) (ob:AObj)
 |app (r:AV) (g:Option Nat) (ob:AObj)
 |ins (id:Nat) (n x:Int)
def ed.mq:ed->Bool
 |.store .. |.app .. |.ins .. =>true
 |_=>false
def ed.val:ed->AV
 |.skip=> .tup []
 |.quiet r=>r
 |.alloc r _=>r
 |.app r _ _=>r
 |_=> .any
def ed.gV(aP:Nat)(H:Hp):ed->Hp
 |.alloc _ ob=>(aP,ob)::H
 |.store id ob=>hset H id ob
 |.app _ g ob=>(aP,ob)::hgo H g
 |.ins id n x=>insE H id n x
 |_=>H
theorem Yp{P:Program}{f:Nat}{xs:List AV}{H:Hp}{K:AV->Prop}(h:dd P f xs H K):∃r,dd P f xs H (· =r)/\K r:=by
 unfold dd at h⊢
 split at h
 ·rename_i hp;obtain⟨r,h1,h2⟩:=h;exact⟨r,by rw[zM hp];exact⟨r,h1,rfl⟩,h2⟩
 ·rename_i hp;obtain⟨h0,r,h1,h3⟩:=h;exact⟨r,by rw[zL hp];exact⟨h0,r,h1,rfl⟩,h3⟩
section
variable(P:Program)(N:Nat)(ops:Array Oper)(base:Nat)(ex dl:List (List Nat))
def cQ(j:Nat):List Nat:=ex.getD j []
def df(j:Nat):List Nat:=(dl.getD j []).map (bk base)
def A3(o:Oper)(fw:Fr):Prop:=o.guard=none\/ ∃g b,o.guard=some (g,b)/\gval ops fw g= .bool b
def um(j:Nat)(o:Oper)(fr:Fr)(H:Hp):ed->Prop
 |.skip=>∃g b,o.guard=some (g,b)/\(gval ops (cD (cQ ex j) fr) g= .bool (!b)\/gval ops (cD (cQ ex j) fr) g= .tup [])
 |.quiet r=>A3 ops o (cD (cQ ex j) fr)/\cvOk P o.op=true/\
  ((ycm o.op=true/\ ∃p,quF P H (evA (cD (cQ ex j) fr)) o.op=some (p,r)/\p)\/
   (ycm o.op=false/\loud o.op=false/\(yai (df base dl j) H).all (fun q=>sO (yai (df base dl j) H) q.2)=true/\
    ((∃p,quF P (yai (df base dl j) H) (evA (nC (yai (df base dl j) H) (cD (cQ ex j) fr))) o.op=some (p,r)/\p)\/
     ∃f args ts g cap,o.op= .call {callee:= .value f,args:=args,argTypes:=ts}/\evA (nC (yai (df base dl j) H) (cD (cQ ex j) fr)) f= .fn g cap/\
      dd P g (args.toList.map (evA (nC (yai (df base dl j) H) (cD (cQ ex j) fr)))++cap) (yai (df base dl j) H) (· =r))))
 |.alloc r ob=>A3 ops o (cD (cQ ex j) fr)/\ycm o.op=false/\loud o.op=false/\((∃p,alF P (base+j) (evA (cD (cQ ex j) fr)) o.op=some (p,r,ob)/\p)\/((!(df base dl j).contains (base+j))=true/\(yai (df base dl j) H).all (fun q=>sO (yai (df base dl j) H) q.2)=true/\
  ∃f args ts g cap,o.op= .call {callee:= .value f,args:=args,argTypes:=ts}/\evA (nC (yai (df base dl j) H) (cD (cQ ex j) fr)) f= .fn g cap/\
   KW P g (args.toList.map (evA (nC (yai (df base dl j) H) (cD (cQ ex j) fr)))++cap) (yai (df base dl j) H) (base+j) (fun r' oh=>r'=r/\oh=ob)))
 |.store id ob=>A3 ops o (cD (cQ ex j) fr)/\ycm o.op=false/\loud o.op=true/\ ∃t x y p,o.op= .store t x y/\stF P H t (evA (cD (cQ ex j) fr) x) (evA (cD (cQ ex j) fr) y)=some (p,id,ob)/\p
 |.app r g ob=>A3 ops o (cD (cQ ex j) fr)/\ycm o.op=false/\loud o.op=true/\ ∃s x t p,o.op= .call {callee:= .builtin .append,args:= #[s,x],argTypes:= #[t,t]}/\apG P (base+j) H t (evA (cD (cQ ex j) fr) s) (evA (cD (cQ ex j) fr) x)=some (p,r,g,ob)/\p
 |.ins id n x=>A3 ops o (cD (cQ ex j) fr)/\ycm o.op=false/\loud o.op=true/\ ∃t m k v p,o.op= .insert t m k v/\inF P H t (evA (cD (cQ ex j) fr) m) (evA (cD (cQ ex j) fr) k) (evA (cD (cQ ex j) fr) v)=some (p,id,n,x)/\p
variable(es:Nat->ed)
def fG(i:Nat):Option Nat:=(ops.getD i default).dst
def dm(fr0:Fr)(E:Nat->Bool):Nat->Fr
 |0=>fr0
 |k+1=>if E k then fput (dm fr0 E k) (fG ops k) (es k).val else dm fr0 E k
def hS(H0:Hp)(E:Nat->Bool):Nat->Hp
 |0=>H0
 |k+1=>if E k then (es k).gV (base+k) (hS H0 E k) else hS H0 E k
end
section
variable{P:Program}{N:Nat}{ops:Array Oper}{base:Nat}{ex dl:List (List Nat)}{es:Nat->ed}{fr0:Fr}{H0:Hp}
theorem Jj{E E':Nat->Bool}{t:Nat}:∀k,(∀i,i<k->fG ops i=some t->E i=E' i)->fget (dm ops es fr0 E k) t=fget (dm ops es fr0 E' k) t
 |0,_=>rfl
 |k+1,h=>by
  have ih:=Jj k fun i hi hd=>h i (by omega) hd;simp only[dm];by_cases hd:fG ops k=some t
  ·rw[h k (by omega) hd,hd]
   split
   ·simp[fput,fget]
   ·exact ih
  ·have aJ:∀(fr:Fr) (x:AV),fget (fput fr (fG ops k) x) t=fget fr t:=fun fr x=>by
    cases hk:fG ops k with
    |none=>rfl
    |some d=>simp only[fput,fget];rw[zL (fun e=>hd (by rw[hk,e]))]
   split<;>split<;>simp only[aJ,ih]
theorem QX{j:Nat}{E:Nat->Bool}(hE:∀i,E i=decide (i<j)):∀k,j<=k->dm ops es fr0 E k=dm ops es fr0 (fun _=>true) j:=by
 have h1:∀k,k<=j->dm ops es fr0 E k=dm ops es fr0 (fun _=>true) k:=by
  intro k
  induction k with
  |zero=>intro _;rfl
  |succ k ih=>intro hk;simp only[dm,hE k,ih (by omega)];simp[show k<j by omega]
 intro k hk
 induction k with
 |zero=>have:j=0:=by omega
        subst this;rfl
 |succ k ih=>
  by_cases hj:j=k+1
  ·subst hj;exact h1 _ (zA _)
  ·simp only[dm,hE k];rw[zL (by simp;omega)];exact ih (by omega)
theorem CU{E E':Nat->Bool}:∀k,(∀i,i<k->(∀H,(es i).gV (base+i) H=H)\/E i=E' i)->hS base es H0 E k=hS base es H0 E' k
 |0,_=>rfl
 |k+1,h=>by
  have ih:=CU k fun i hi=>h i (by omega);simp only[hS];rcases h k (by omega) with h1|h1
  ·simp only[h1,ih];split<;>split<;>rfl
  ·rw[h1,ih]
theorem KT{j:Nat}{E:Nat->Bool}(hE:∀i,E i=decide (i<j)):∀k,j<=k->hS base es H0 E k=hS base es H0 (fun _=>true) j:=by
 have h1:∀k,k<=j->hS base es H0 E k=hS base es H0 (fun _=>true) k:=by
  intro k
  induction k with
  |zero=>intro _;rfl
  |succ k ih=>intro hk;simp only[hS,hE k,ih (by omega)];simp[show k<j by omega]
 intro k hk
 induction k with
 |zero=>have:j=0:=by omega
        subst this;rfl
 |succ k ih=>
  by_cases hj:j=k+1
  ·subst hj;exact h1 _ (zA _)
  ·simp only[hS,hE k];rw[zL (by simp;omega)];exact ih (by omega)
def kN:ed->Option AObj
 |.alloc _ ob=>some ob
 |_=>none
theorem Ig{E:Nat->Bool}(hb:∀i,base<=i->hget H0 i=none):∀k,(∀i,i<k->E i=true->(es i).mq=false)->∀id,hget (hS base es H0 E k) id=
  (if base<=id/\id-base<k/\E (id-base)=true/\(kN (es (id-base))).isSome=true then kN (es (id-base)) else hget H0 id)
 |0,_,id=>by simp[hS]
 |k+1,h,id=>by
  have ih:=Ig hb k (fun i hi=>h i (by omega)) id;simp only[hS];by_cases hE:E k=true
  ·rw[zM hE];have uK:=h k (by omega) hE;cases hk:es k with
   |store bO ob=>rw[hk]at uK;cases uK
   |app r g ob=>rw[hk]at uK;cases uK
   |ins id n x=>rw[hk]at uK;cases uK
   |alloc r ob=>
    simp only[ed.gV,hget];by_cases e:base+k=id
    ·subst e;rw[zM rfl,zM ⟨by omega,by omega,by rw[Nat.add_sub_cancel_left];exact hE,by rw[Nat.add_sub_cancel_left,hk];rfl⟩,Nat.add_sub_cancel_left,hk];rfl
    ·rw[zL e,ih];by_cases c:base<=id/\id-base<k/\E (id-base)=true/\(kN (es (id-base))).isSome=true
     ·rw[zM c,zM ⟨c.1,by omega,c.2.2⟩]
     ·rw[zL c,zL (fun c'=>c ⟨c'.1,by omega,c'.2.2⟩)]
   |skip=>
    simp only[ed.gV];rw[ih];by_cases c:base<=id/\id-base<k/\E (id-base)=true/\(kN (es (id-base))).isSome=true
    ·rw[zM c,zM ⟨c.1,by omega,c.2.2⟩]
    ·rw[zL c,zL (fun c'=>by
      by_cases e:id-base=k
      ·rw[e,hk]at c';simp[kN]at c'
      ·exact c ⟨c'.1,by omega,c'.2.2⟩)]
   |quiet r=>
    simp only[ed.gV];rw[ih];by_cases c:base<=id/\id-base<k/\E (id-base)=true/\(kN (es (id-base))).isSome=true
    ·rw[zM c,zM ⟨c.1,by omega,c.2.2⟩]
    ·rw[zL c,zL (fun c'=>by
      by_cases e:id-base=k
      ·rw[e,hk]at c';simp[kN]at c'
      ·exact c ⟨c'.1,by omega,c'.2.2⟩)]
  ·rw[zL hE,ih];by_cases c:base<=id/\id-base<k/\E (id-base)=true/\(kN (es (id-base))).isSome=true
   ·rw[zM c,zM ⟨c.1,by omega,c.2.2⟩]
   ·rw[zL c,zL (fun c'=>by
     by_cases e:id-base=k
     ·rw[e]at c';exact hE c'.2.2.1
     ·exact c ⟨c'.1,by omega,c'.2.2⟩)]
def qa(ops:Array Oper)(es:Nat->ed)(j:Nat)(fr:Fr):Nat->Fr
 |0=>fr
 |d+1=>qa ops es (j+1) (fput fr (fG ops j) (es j).val) d
def hI(base:Nat)(es:Nat->ed)(j:Nat)(H:Hp):Nat->Hp
 |0=>H
 |d+1=>hI base es (j+1) ((es j).gV (base+j) H) d
theorem MA{K:Fr->Hp->Prop}:∀(n j:Nat) (fr:Fr) (H:Hp),j+n<=ops.size->ex.length=ops.size->dl.length=ops.size->eI P N ops base j ((ops.toList.drop j).take n) (ex.drop j) (dl.drop j) fr H K->
  ∃es:Nat->ed,(∀d,d<n->dok (fG ops (j+d)) N=true/\ ∃fr' H',qa ops es j fr d=fr'/\hI base es j H d=H'/\um P ops base ex dl (j+d) (ops.getD (j+d) default) fr' H' (es (j+d)))/\K (qa ops es j fr n) (hI base es j H n)
 |0,j,fr,H,hj,_,_,h=>by
  simp only[List.take_zero,eI]at h;exact⟨fun _=> .skip,fun d hd=>by omega,h⟩
 |n+1,j,fr,H,hj,hex,nK,h=>by
  have aC:j<ops.size:=by omega
  have hget:ops.getD j default=ops[j]:=by simp[aC]
  have jb:ex[j]'(by omega)=cQ ex j:=by simp[cQ,show j<ex.length by omega]
  have BU:(dl[j]'(by omega)).map (bk base)=df base dl j:=by simp[df,show j<dl.length by omega]
  rw[List.drop_eq_getElem_cons (by simpa using aC),List.drop_eq_getElem_cons (l:=ex) (by omega),List.drop_eq_getElem_cons (l:=dl) (by omega)]at h;simp only[List.take_succ_cons,eI,Array.getElem_toList]at h
  have iO:∀(e:ed),dok (ops[j]).dst N=true->um P ops base ex dl j ops[j] fr H e->eI P N ops base (j+1) ((ops.toList.drop (j+1)).take n) (ex.drop (j+1)) (dl.drop (j+1)) (fput fr (ops[j]).dst e.val) (e.gV (base+j) H) K->
   ∃es:Nat->ed,(∀d,d<n+1->dok (fG ops (j+d)) N=true/\ ∃fr' H',qa ops es j fr d=fr'/\hI base es j H d=H'/\um P ops base ex dl (j+d) (ops.getD (j+d) default) fr' H' (es (j+d)))/\K (qa ops es j fr (n+1)) (hI base es j H (n+1)):=fun e pf he hr=>by
   obtain⟨es,h1,h2⟩:=MA n (j+1) _ _ (by omega) hex nK hr;have dK:∀d (fr:Fr) (H:Hp),qa ops (fun i=>if i=j then e else es i) (j+1) fr d=qa ops es (j+1) fr d/\hI base (fun i=>if i=j then e else es i) (j+1) H d=hI base es (j+1) H d:=by
    have gen:∀d s (fr:Fr) (H:Hp),j<s->qa ops (fun i=>if i=j then e else es i) s fr d=qa ops es s fr d/\hI base (fun i=>if i=j then e else es i) s H d=hI base es s H d:=by
     intro d
     induction d with
     |zero=>intro s fr H _;exact⟨rfl,rfl⟩
     |succ d ih=>intro s fr H hs;simp only[qa,hI,show s≠j by omega,if_false];exact ih (s+1) _ _ (by omega)
    exact fun d fr H=>gen d (j+1) fr H (by omega)
   have iH:fG ops j=(ops[j]).dst:=by simp[fG,aC]
   refine⟨fun i=>if i=j then e else es i,fun d hd=>?_,?_⟩
   ·cases d with
    |zero=>exact⟨by rw[Nat.add_zero,iH];exact pf,fr,H,rfl,rfl,by simpa [aC] using he⟩
    |succ d=>
     obtain⟨g1,fr',H',g2,g3,g4⟩:=h1 d (by omega);have ea:j+1+d=j+(d+1):=by omega
     rw[ea]at g1 g4;refine⟨g1,fr',H',?_,?_,?_⟩
     ·simp only[qa,if_true,iH,(dK d _ H).1];exact g2
     ·simp only[hI,if_true,(dK d fr _).2];exact g3
     ·simpa [show j+(d+1)≠j by omega] using g4
   ·simp only[qa,hI,if_true,iH,(dK n _ H).1,(dK n fr _).2];exact h2
  have WR:A3 ops ops[j] (cD (cQ ex j) fr)->eI.awDO P N base j ops[j] (ex[j]'(by omega)) (dl[j]'(by omega)) fr H (fun fr' H'=>eI P N ops base (j+1) ((ops.toList.drop (j+1)).take n) (ex.drop (j+1)) (dl.drop (j+1)) fr' H' K)->
   ∃es:Nat->ed,(∀d,d<n+1->dok (fG ops (j+d)) N=true/\ ∃fr' H',qa ops es j fr d=fr'/\hI base es j H d=H'/\um P ops base ex dl (j+d) (ops.getD (j+d) default) fr' H' (es (j+d)))/\K (qa ops es j fr (n+1)) (hI base es j H (n+1)):=fun hw hq=>by
   unfold eI.awDO at hq;obtain⟨qU,pf,hq⟩:=hq;rw[jb,BU]at hq
   split at hq
   ·rename_i jH
    split at hq
    ·rename_i p r sY
     exact iO (.quiet r) pf ⟨hw,qU,.inl ⟨jH,p,sY,hq.1⟩⟩ hq.2
    ·exact hq.elim
   ·rename_i jH
    have mA:ycm (ops[j]).op=false:=by simpa using jH
    split at hq
    ·rename_i p r sY
     have hl:loud (ops[j]).op=false:=by
      cases hl:loud (ops[j]).op with
      |false=>rfl
      |true=>
       exfalso;cases ho:(ops[j]).op with
       |store t x y=>rw[ho]at sY;simp[quF,opF]at sY
       |insert t m k v=>rw[ho]at sY;simp[quF,opF]at sY
       |call c=>
        obtain⟨callee,args,ts⟩:=c;rw[ho]at hl sY;cases callee with
        |builtin b=>cases b<;>first|(simp[quF,opF]at sY;done)|(simp[loud]at hl;done)
        |_=>simp[loud]at hl
       |_=>rw[ho]at hl;simp[loud]at hl
     exact iO (.quiet r) pf ⟨hw,qU,.inr ⟨mA,hl,hq.1,.inl ⟨p,sY,hq.2.1⟩⟩⟩ hq.2.2
    ·split at hq
     ·rename_i p r ob br
      have hl:loud (ops[j]).op=false:=by
       cases ho:(ops[j]).op<;>first|rfl|(rw[ho]at br;simp[alF]at br)
      exact iO (.alloc r ob) pf ⟨hw,mA,hl,.inl ⟨p,br,hq.1⟩⟩ hq.2
     ·split at hq
      ·rename_i t x y ho
       split at hq
       ·rename_i p id ob bT
        exact iO (.store id ob) pf ⟨hw,mA,by rw[ho];rfl,t,x,y,p,ho,bT,hq.1⟩ hq.2
       ·exact hq.elim
      ·rename_i t m k v ho
       split at hq
       ·rename_i p id n x bT
        exact iO (.ins id n x) pf ⟨hw,mA,by rw[ho];rfl,t,m,k,v,p,ho,bT,hq.1⟩ hq.2
       ·exact hq.elim
      ·rename_i args ts ho
       split at hq
       ·rename_i s x t t' tc hts
        obtain⟨rfl,hq⟩:=hq
        split at hq
        ·rename_i p r g ob iT
         have e1:args= #[s,x]:=by simpa using congrArg List.toArray tc
         have e2:ts= #[t,t]:=by simpa using congrArg List.toArray hts
         subst e1 e2;exact iO (.app r g ob) pf ⟨hw,mA,by rw[ho];rfl,s,x,t,p,ho,iT,hq.1⟩ hq.2
        ·exact hq.elim
       ·exact hq.elim
      ·rename_i f args ts ho
       split at hq
       ·rename_i g cap hf
        rcases hq.2 with hqa|⟨es,n,t,l,PO,uJ,hk⟩
        case inr=>exact iO (.alloc (.sl es (base+j) 0 n) (.cells t l)) pf ⟨hw,mA,by rw[ho];rfl,.inr ⟨hk.1,hq.1,f,args,ts,g,cap,ho,hf,es,n,t,l,PO,uJ,rfl,rfl⟩⟩ hk.2
        obtain⟨r,J4,sW⟩:=Yp hqa;exact iO (.quiet r) pf ⟨hw,qU,.inr ⟨mA,by rw[ho];rfl,hq.1,.inr ⟨f,args,ts,g,cap,ho,hf,J4⟩⟩⟩ sW
       ·exact hq.elim
      ·exact hq.elim
  split at h
  ·rename_i hg
   exact WR (.inl hg) h
  ·rename_i g b hg
   split at h
   ·rename_i c hc
    rw[jb]at hc;by_cases hcb:c=b
    ·exact WR (.inr ⟨g,b,hg,by rw[hc,hcb]⟩) (h.1 hcb)
    ·have qY:c= !b:=by cases c<;>cases b<;>simp_all
     obtain⟨pf,hr⟩:=h.2 qY;exact iO .skip pf ⟨g,b,hg,.inl (by rw[hc,qY])⟩ hr
   ·rename_i hc
    rw[jb]at hc;exact iO .skip h.1 ⟨g,b,hg,.inr hc⟩ h.2
   ·exact h.elim
end
end Go.Proofs.YthohfoombimbeaaGreatDoor
