/- The author's own program logic: calls, statements, functions, statements that draw their order. -/
import Derived.Test.YtfgbnalnbdhimaaGreatDoorGa
import Derived.Orders
set_option linter.unusedSimpArgs false
set_option linter.unusedVariables false
namespace Go.Proofs.YtfgbnalnbdhimaaGreatDoor
open Go Go.RowKit
def ρ0:Nat->Addr:=fun _=>⟨0,0,none⟩
def FnOk (P:Program) (f:Nat):Prop:= ∃fn,P.funcs[f]?=some fn/\fn.body.isSome=true/\(fn.name== "runtime.NumGoroutine")=false
def MxOk (w:World) (Mx:Nat->Prop):Prop:=Good w/\ ∀b,Mx b->b<w.heap.size
def Fn (P:Program) (f:Nat) (args:List AV) (r:AV):Prop:=
 FnOk P f/\ ∀(w:World) (Mx:Nat->Prop) (vs:List Value),MxOk w Mx->vs.length=args.length->(∀(i:Nat) (v:Value) (x:AV),vs[i]?=some v->args[i]?=some x->VR w Mx ρ0 (fun _=>False) v x)->
  Calls P f vs.toArray w fun e w'=> ∃v,e= .returned v/\Below w.heap.size w w'/\VR w' Mx ρ0 (fun _=>False) v r
def ylf:AV->Bool
 | .int .. | .bool _| .str _| .nils=>true
 |_=>false
def flat:AV->Bool
 | .agg xs=>xs.all ylf
 | .tup xs=>xs.all ylf
 |x=>ylf x
def FnN (P:Program) (f:Nat) (args:List AV) (r:AV):Prop:=
 FnOk P f/\ ∀(w:World) (Mx:Nat->Prop) (vs:List Value),MxOk w Mx->vs.length=args.length->(∀(i:Nat) (v:Value) (x:AV),vs[i]?=some v->args[i]?=some x->VR w Mx ρ0 (fun _=>False) v x)->
  Calls P f vs.toArray w fun e w'=> ∃v,e= .returned v/\Below w.heap.size w w'/\VR w' (fun b=>b<w.heap.size) ρ0 (fun _=>False) v r
def ybd (P:Program) (f:Nat) (xs:List AV) (H:Hp) (K:AV->Prop):Prop:=
 if xs.all p3 then∃r,Fn P f xs r/\K r else (∀x∈xs,yan H 6 x)/\ ∃r,((Fn P f (xs.map (snap H 6)) r/\flat r=true)\/FnN P f (xs.map (snap H 6)) r)/\K r
def WpA (P:Program) (N:Nat) (c:Code) (fr:Fr) (H:Hp) (Q:Exit->Fr->Hp->Prop):Prop:=
 ∀(B:Nat) (w0:ybi) (Mx:Nat->Prop) (w:World) (ρ:Nat->Addr) (a:Act),Sim B w0 Mx N w ρ fr H a->
  c.wp P (fun e a' w'=> ∃ρ' fr' H',Q e fr' H'/\Sim B w0 Mx N w' ρ' fr' H' a') a w
def resL (P:Program) (fr:Fr) (H:Hp):List ResultVar->Option (Prop×List AV)
 |[]=>some (True,[])
 | .tmp t::r=>match resL P fr H r with
   |some (p,l)=>some (p,evA fr (.tmp t)::l)
   |none=>none
 | .cell d t::r=>match yk5 P (hget H) t (evA fr (.tmp d)),resL P fr H r with
   |some (q,x),some (p,l)=>some (q/\p,x::l)
   |_,_=>none
def yeq:List AV->AV
 |[x]=>x
 |l=> .tup l
def frOf (k:Nat):List AV->Fr
 |[]=>[]
 |x::r=>(k,x)::frOf (k+1) r
def retI (P:Program) (rs:List ResultVar) (K:AV->Fr->Hp->Prop) (e:Exit) (fr:Fr) (H:Hp):Prop:=
 (e= .ret\/e= .normal)/\match resL P fr H rs with
 |some (p,l)=>p/\K (yeq l) (unl fr) H
 |none=>False
def y6z (P:Program) (f:Nat) (xs:List AV) (fr:Fr) (H:Hp) (K:AV->Fr->Hp->Prop):Prop:=
 ∀(B:Nat) (w0:ybi) (Mx:Nat->Prop) (N:Nat) (w:World) (ρ:Nat->Addr) (a:Act),Sim B w0 Mx N w ρ fr H a-> ∀vs:List Value,vs.length=xs.length->
  (∀(i:Nat) (v:Value) (x:AV),vs[i]?=some v->xs[i]?=some x->VR w (MM Mx H ρ) ρ (DD H) v x)->
  FnOk P f/\Calls P f vs.toArray w fun e w'=> ∃v r ρ' fr' H',e= .returned v/\K r fr' H'/\Sim B w0 Mx N w' ρ' fr' H' a/\VR w' (MM Mx H' ρ') ρ' (DD H') v r
structure yba (P:Program) (f:Nat) (xs:List AV) (fr:Fr) (H:Hp) (K:AV->Fr->Hp->Prop):Prop where
 out:(∃fn c,P.funcs[f]?=some fn/\fn.body=some c/\(fn.name== "runtime.NumGoroutine")=false/\(xs.length<=fn.ntmps/\fn.ntmps<=1000000)/\WpA P fn.ntmps c (frOf 0 xs++lft fr) H (retI P fn.results.toList K))\/y6z P f xs fr H K
theorem yba.intro {P:Program} {f:Nat} {xs:List AV} {fr:Fr} {H:Hp} {K:AV->Fr->Hp->Prop} {fn:Func} {c:Code} (rs:List ResultVar) (hf:P.funcs[f]?=some fn) (hb:fn.body=some c) (hrs:fn.results.toList=rs) (hn:(fn.name== "runtime.NumGoroutine")=false) (hl:xs.length<=fn.ntmps/\fn.ntmps<=1000000)
  (h:WpA P fn.ntmps c (frOf 0 xs++lft fr) H (retI P rs K)):yba P f xs fr H K:=⟨.inl ⟨fn,c,hf,hb,hn,hl,by rw [hrs];exact h⟩⟩
def FnO (P:Program) (f:Nat) (args:List AV) (r:AV) (H0:Hp):Prop:=
 FnOk P f/\ ∀(w:World) (Mx:Nat->Prop) (vs:List Value),MxOk w Mx->vs.length=args.length->(∀(i:Nat) (v:Value) (x:AV),vs[i]?=some v->args[i]?=some x->VR w Mx ρ0 (fun _=>False) v x)->
  Calls P f vs.toArray w fun e w'=> ∃v ρ',e= .returned v/\Sim w.heap.size ⟨w,fun _=>undef⟩ Mx 0 w' ρ' [] H0 {tmps:= #[],defers:=[]}/\VR w' (MM Mx H0 ρ') ρ' (DD H0) v r
def yub (P:Program) (f:Nat) (xs:List AV) (H:Hp) (nid:Nat) (K:AV->AObj->Prop):Prop:=
 ∃es n t l,(∀j,j<l.len-> ∃k,l.get j=I k)/\((xs.all p3=true/\FnO P f xs (.sl es 0 0 n) [(0, .cells t l)])\/((∀x∈xs,yan H 6 x)/\FnO P f (xs.map (snap H 6)) (.sl es 0 0 n) [(0, .cells t l)]))/\K (.sl es nid 0 n) (.cells t l)
def ylg (P:Program) (f:Nat) (xs:List AV) (H:Hp) (nid:Nat) (K:AV->Prop) (K2:AV->AObj->Prop):Prop:=ybd P f xs H K\/yub P f xs H nid K2
def yuc (P:Program) (f:Nat) (xs:List AV) (fr:Fr) (H:Hp) (K:AV->Fr->Hp->Prop):Prop:=
 (∃r,Fn P f xs r/\K r fr H)\/(∃r H0,FnO P f xs r H0/\K (renV (hnew H) 4 r) fr (renH (hnew H) H0++H))\/yba P f xs fr H K
def yae (P:Program) (f:Nat) (xs:List AV) (fr:Fr) (H:Hp) (K:AV->Fr->Hp->Prop):Prop:=
 if xs.all p3 then yuc P f xs fr H K else
  ((∀x∈xs,yan H 6 x)/\ ∃r,Fn P f (xs.map (snap H 6)) r/\flat r=true/\K r fr H)\/
  (∃ids,yi6 (hsel H ids) fr/\yi7 (hsel H ids) H/\(∀x∈xs,frzP (hsel H ids) 4 x)/\(xs.map (frzV (hsel H ids) 4)).all p3=true/\yuc P f (xs.map (frzV (hsel H ids) 4)) (frzF (hsel H ids) fr) (frzH (hsel H ids) H) K)\/
  yba P f xs fr H K
def gsp (c b:Bool) (A B:Prop):Prop:=(c=b->A)/\(c= !b->B)
theorem yvr {c c' b:Bool} {A B:Prop} (h:c=c'):gsp c b A B=gsp c' b A B:=by rw [h]
theorem y44 {A B:Prop}:gsp true true A B=A:=by simp [gsp]
theorem y45 {A B:Prop}:gsp true false A B=B:=by simp [gsp]
theorem y46 {A B:Prop}:gsp false true A B=B:=by simp [gsp]
theorem y47 {A B:Prop}:gsp false false A B=A:=by simp [gsp]
theorem yrf {P:Program} {f:Nat} {xs xs':List AV} {fr fr':Fr} {H H':Hp} {K:AV->Fr->Hp->Prop} (h1:xs=xs') (h2:fr=fr') (h3:H=H'):yae P f xs fr H K=yae P f xs' fr' H' K:=by rw [h1,h2,h3]
theorem yrg {P:Program} {f:Nat} {xs xs':List AV} {H H':Hp} {K:AV->Prop} (h1:xs=xs') (h3:H=H'):ybd P f xs H K=ybd P f xs' H' K:=by rw [h1,h3]
section
variable {P:Program} {f:Nat} {xs:List AV} {fr:Fr} {H:Hp} {K:AV->Fr->Hp->Prop}
theorem yae.fn {r:AV} (hp:xs.all p3=true) (h:Fn P f xs r) (k:K r fr H):yae P f xs fr H K:=by unfold yae;rw [if_pos hp];exact .inl ⟨r,h,k⟩
theorem yae.fno {r:AV} {H0:Hp} (hp:xs.all p3=true) (h:FnO P f xs r H0) (k:K (renV (hnew H) 4 r) fr (renH (hnew H) H0++H)):yae P f xs fr H K:=by unfold yae;rw [if_pos hp];exact .inr (.inl ⟨r,H0,h,k⟩)
theorem yae.inline (h:yba P f xs fr H K):yae P f xs fr H K:=by
 unfold yae
 split
 ·exact .inr (.inr h)
 ·exact .inr (.inr h)
theorem yae.frz {ys:List AV} {fr':Fr} {H':Hp} (ids:List Nat) (hp:xs.all p3=false) (h1:yi6 (hsel H ids) fr) (h2:yi7 (hsel H ids) H) (h3: ∀x∈xs,frzP (hsel H ids) 4 x) (hy:xs.map (frzV (hsel H ids) 4)=ys) (h4:ys.all p3=true)
  (hfr:frzF (hsel H ids) fr=fr') (hH:frzH (hsel H ids) H=H') (k:yae P f ys fr' H' K):yae P f xs fr H K:=by
 unfold yae;rw [if_neg (by simp [hp])];subst hy;subst hfr;subst hH
 unfold yae at k;rw [if_pos h4] at k
 exact .inr (.inl ⟨ids,h1,h2,h3,h4,k⟩)
theorem ybd.fn {K:AV->Prop} {nid:Nat} {K2:AV->AObj->Prop} {r:AV} (hp:xs.all p3=true) (h:Fn P f xs r) (k:K r):ylg P f xs H nid K K2:=by left;unfold ybd;rw [if_pos hp];exact ⟨r,h,k⟩
theorem ybd.flat {K:AV->Prop} {nid:Nat} {K2:AV->AObj->Prop} {r:AV} {ys:List AV} (hp:xs.all p3=false) (hs: ∀x∈xs,yan H 6 x) (hy:xs.map (snap H 6)=ys) (h:Fn P f ys r) (hf:Go.Proofs.YtfgbnalnbdhimaaGreatDoor.flat r=true) (k:K r):ylg P f xs H nid K K2:=by
 left;unfold ybd;rw [if_neg (by simp [hp])];subst hy;exact ⟨hs,r, .inl ⟨h,hf⟩,k⟩
theorem ybd.new {K:AV->Prop} {nid:Nat} {K2:AV->AObj->Prop} {r:AV} {ys:List AV} (hp:xs.all p3=false) (hs: ∀x∈xs,yan H 6 x) (hy:xs.map (snap H 6)=ys) (h:FnN P f ys r) (k:K r):ylg P f xs H nid K K2:=by
 left;unfold ybd;rw [if_neg (by simp [hp])];subst hy;exact ⟨hs,r, .inr h,k⟩
end
def cvOk (P:Program):Op->Bool
 | .convert s _ _=>match tk P s with| .bad=>false|_=>true
 |_=>true
def SpA (P:Program) (N:Nat) (o:Oper) (K:Fr->Hp->Prop) (fr:Fr) (H:Hp):Prop:=
 ∀(B:Nat) (w0:ybi) (Mx:Nat->Prop) (w:World) (ρ:Nat->Addr) (a:Act),Sim B w0 Mx N w ρ fr H a-> ∀Q:Exit->Act->World->Prop,o.wp P a w (fun a' w'=> ∃ρ' fr' H',K fr' H'/\Sim B w0 Mx N w' ρ' fr' H' a') Q
def spOp:Op->Bool
 | .next .. | .range .. | .entry .. | .insert .. | .makeMap .. | .load .. | .index .. | .indexAddr .. | .build .. | .convert .. =>true
 | .call {callee:= .builtin .copy, .. }| .call {callee:= .builtin .clear, .. }| .call {callee:= .builtin .len, .. }=>true
 |_=>false
def awX (P:Program) (N:Nat) (o:Oper) (fr:Fr) (H:Hp) (K:Fr->Hp->Prop):Prop:=
 match o.op with
 | .store t x y=>match stF P H t (evA fr x) (evA fr y) with
   |some (p,id,ob)=>p/\dok o.dst N=true/\K (fput fr o.dst .any) (hset H id ob)
   |none=>False
 | .mapUpdate t m k x=>match muF P H t (evA fr m) (evA fr k) (evA fr x) with
   |some (id,ob)=>dok o.dst N=true/\K (fput fr o.dst .any) (hset H id ob)
   |none=>False
 | .call c=>match c.callee with
   | .builtin .append=>match c.args.toList,c.argTypes.toList with
     |[s,x],[t,t']=>t=t'/\match apF P fr H t (evA fr s) (evA fr x) with
      |some (p,r,fr',H')=>p/\dok o.dst N=true/\K (fput fr' o.dst r) H'
      |none=>False
     |_,_=>False
   | .value f=>match evA fr f with
     | .fn g cap=>dok o.dst N=true/\yae P g (c.args.toList.map (evA fr)++cap) fr H fun r fr' H'=>K (fput fr' o.dst r) H'
     |_=>False
   |_=>spOp o.op=true/\SpA P N o K fr H
 |_=>spOp o.op=true/\SpA P N o K fr H
def awO (P:Program) (N:Nat) (o:Oper) (fr:Fr) (H:Hp) (K:Fr->Hp->Prop):Prop:=
 cvOk P o.op=true/\match quF P H (evA fr) o.op with
 |some (p,r)=>p/\dok o.dst N=true/\K (fput fr o.dst r) H
 |none=>match alF P (hnew H) (evA fr) o.op with
  |some (p,r,ob)=>p/\dok o.dst N=true/\K (fput fr o.dst r) ((hnew H,ob)::H)
  |none=>awX P N o fr H K
def gval (ops:Array Oper) (fr:Fr) (j:Nat):AV:=match (ops[j]?).bind (·.dst) with
 |some d=>if d<1000000 then fget fr d else .any
 |none=> .any
def gput (ops:Array Oper) (fr:Fr) (j:Nat) (b:Bool):Fr:=match (ops[j]?).bind (·.dst) with
 |some d=>(d, .bool b)::fr
 |none=>fr
def awL (P:Program) (N:Nat) (ops:Array Oper):List Oper->Fr->Hp->(Fr->Hp->Prop)->Prop
 |[],fr,H,K=>K fr H
 |o::r,fr,H,K=>match o.guard with
  |none=>awO P N o fr H fun fr' H'=>awL P N ops r fr' H' K
  |some (j,b)=>match gval ops fr j with
   | .bool c=>gsp c b (awO P N o (gput ops fr j b) H fun fr' H'=>awL P N ops r fr' H' K) (dok o.dst N=true/\awL P N ops r (fput (gput ops fr j (!b)) o.dst (.tup [])) H K)
   | .tup []=>dok o.dst N=true/\awL P N ops r (fput fr o.dst (.tup [])) H K
   |_=>False
section
variable {P:Program} {B:Nat} {w0:ybi} {Mx:Nat->Prop} {N:Nat} {w:World} {ρ:Nat->Addr} {fr:Fr} {H:Hp} {a:Act}
theorem Sim.later (h:Sim B w0 Mx N w ρ fr H a) {w':World} (hb:Below w.heap.size w w'):Sim B w0 Mx N w' ρ fr H a:=by
 have hc: ∀{D:Nat->Prop} {v:Value} {x:AV},VR w (MM Mx H ρ) ρ D v x->VR w' (MM Mx H ρ) ρ D v x:=fun hv=>
  hv.carry hb.size (fun b hlt hm=>⟨hb.block b hlt,hm⟩) (fun id hd=>⟨hd,rfl,fun arr t ha=>⟨arr,(hb.block _ (yaj ha)).trans ha,rfl⟩⟩)
 refine ⟨h.below.trans (hb.mono h.hB),Nat.le_trans h.hB hb.size,fun b hm=>Nat.lt_of_lt_of_le (h.mx b hm) hb.size,h.own,fun id o ho=>?_,h.inj,fun t=>hc (h.frv t),h.defers,h.size⟩
 have hr:=h.objs id o ho
 cases o with
 |gone=>trivial
 |cells t c=>
  obtain ⟨k1,arr,k2,k3,k4⟩:=hr
  exact ⟨k1,arr,(hb.block _ (yaj k2)).trans k2,k3,fun j hj=>let ⟨u,hu,hv⟩:=k4 j hj;⟨u,hu,hc hv⟩⟩
 |gmap t ck l=>
  obtain ⟨es,k1,k2,k3⟩:=hr
  exact ⟨es,(hb.block _ (yaj k1)).trans k1,k2,fun j e q he hl=>let ⟨g1,g2,g3⟩:=k3 j e q he hl;⟨g1,g2,hc g3⟩⟩
 |iter mid s sn la=>
  obtain ⟨k1,k2,k3⟩:=hr
  exact ⟨k1,k2,(hb.block _ (yaj k3)).trans k3⟩
 |imap t l=>
  obtain ⟨k0,es,ck,k1,k2,k3⟩:=hr
  exact ⟨k0,es,ck,(hb.block _ (yaj k1)).trans k1,k2,fun j e k x he hl=>let ⟨g1,g2,g3⟩:=k3 j e k x he hl;⟨g1,hc g2,g3⟩⟩
 |fmap t c=>
  obtain ⟨k0,es,ck,k1,k2⟩:=hr
  exact ⟨k0,es,ck,(hb.block _ (yaj k1)).trans k1,k2⟩
theorem Sim.good (h:Sim B w0 Mx N w ρ fr H a):Good w:=h.defers.2 w h.below
theorem Sim.mm_lt (h:Sim B w0 Mx N w ρ fr H a) (b:Nat) (hm:MM Mx H ρ b):b<w.heap.size:=by
 rcases hm with h1|⟨id,o,h1,h2,h3⟩
 ·exact h.mx b h1
 ·rw [←h3];exact (h.objs id o h1).lt h2
theorem y12 {v:Value} {x:AV} {M M':Nat->Prop} {ρ':Nat->Addr} {D':Nat->Prop} (hv:VR w M ρ0 (fun _=>False) v x) (hf:flat x=true):VR w M' ρ' D' v x:=by
 have h1: ∀{v:Value} {x:AV},VR w M ρ0 (fun _=>False) v x->ylf x=true->VR w M' ρ' D' v x:=fun hv hf=>by
  cases hv<;>first|(cases hf;done)|constructor
 cases x with
 |agg xs=>
  obtain ⟨vs,rfl,hl,hx⟩:=hv.agg_inv
  exact .agg vs xs hl fun i v x g1 g2=>h1 (hx i v x g1 g2) (List.all_eq_true.1 hf _ (List.mem_of_getElem? g2))
 |tup xs=>
  obtain ⟨vs,rfl,hl,hx⟩:=hv.tup_inv
  exact .tup vs xs hl fun i v x g1 g2=>h1 (hx i v x g1 g2) (List.all_eq_true.1 hf _ (List.mem_of_getElem? g2))
 |_=>exact h1 hv hf
theorem yj3 (h:Sim B w0 Mx N w ρ fr H a) {f:Nat} {xs:List AV} {K:AV->Prop} (hc:ybd P f xs H K) {vs:List Value} (hl:vs.length=xs.length)
  (hv: ∀(i:Nat) (v:Value) (x:AV),vs[i]?=some v->xs[i]?=some x->VR w (MM Mx H ρ) ρ (DD H) v x):
  FnOk P f/\Calls P f vs.toArray w fun e w'=> ∃v r,e= .returned v/\K r/\Sim B w0 Mx N w' ρ fr H a/\VR w' (MM Mx H ρ) ρ (DD H) v r/\Below w.heap.size w w':=by
 unfold ybd at hc
 split at hc
 ·rename_i hp
  obtain ⟨r,⟨hok,hfn⟩,hk⟩:=hc
  refine ⟨hok,(hfn w (MM Mx H ρ) vs ⟨h.good,h.mm_lt⟩ hl fun i v x h1 h2=>(hv i v x h1 h2).pure3 (List.all_eq_true.1 hp _ (List.mem_of_getElem? h2))).mono ?_⟩
  rintro e w' ⟨v,rfl,hb,hr⟩
  exact ⟨v,r,rfl,hk,h.later hb,hr.D0,hb⟩
 ·obtain ⟨hs,r,hor,hk⟩:=hc
  have hvs: ∀(i:Nat) (v:Value) (x:AV),vs[i]?=some v->(xs.map (snap H 6))[i]?=some x->VR w (fun _=>False) ρ0 (fun _=>False) v x:=fun i v x h1 h2=>by
   simp only [List.getElem?_map] at h2
   obtain ⟨x',g1,rfl⟩:=Option.map_eq_some_iff.1 h2
   exact yi5 h (fun _ h=>h.elim) 6 v x' (hv i v x' h1 g1) (hs _ (List.mem_of_getElem? g1))
  rcases hor with ⟨⟨hok,hfn⟩,hf⟩|⟨hok,hfn⟩
  ·refine ⟨hok,(hfn w (fun _=>False) vs ⟨h.good,fun _ h=>h.elim⟩ (by simpa using hl) hvs).mono ?_⟩
   rintro e w' ⟨v,rfl,hb,hr⟩
   exact ⟨v,r,rfl,hk,h.later hb,y12 hr hf,hb⟩
  ·refine ⟨hok,(hfn w (fun _=>False) vs ⟨h.good,fun _ h=>h.elim⟩ (by simpa using hl) hvs).mono ?_⟩
   rintro e w' ⟨v,rfl,hb,hr⟩
   exact ⟨v,r,rfl,hk,h.later hb,(hr.carry (ρ':=ρ0) (D':=fun _=>False) (Nat.le_refl _) (fun b _ hm=>⟨rfl,fun hM=>hm (h.mm_lt b hM)⟩) (fun k hd=>hd.elim)).D0,hb⟩
theorem yfw {f:Nat} (h:FnOk P f) (args:Array Value):(callFunc f args).run P w= .ok (.enter f args) w:=by
 obtain ⟨fn,h1,h2,h3⟩:=h
 have h4: ¬fn.body=none:=by intro hb;rw [hb] at h2;cases h2
 have h5: ¬fn.name= "runtime.NumGoroutine" :=by simpa using h3
 simp [callFunc,program,Sem.run,h1,h4,h5]
def yie (tmps:Array Value):ResultVar->Sem Value
 | .tmp t=>pure (tmps.getD t undef)
 | .cell d t=>do loadVar t (←asAddr (tmps.getD d undef))
theorem ylh (fn:Func) (tmps:Array Value):results fn tmps=(do let vs←fn.results.mapM (yie tmps);pure (if h:vs.size=1 then vs[0] else .tuple vs)):=by
 unfold results
 congr 2
theorem yhk (h:Sim B w0 Mx N w ρ fr H a): ∀(rs:List ResultVar) (p:Prop) (l:List AV),resL P fr H rs=some (p,l)->p-> ∃vs:List Value,(rs.mapM (yie a.tmps)).run P w= .ok vs w/\vs.length=l.length/\
  ∀(i:Nat) (v:Value) (x:AV),vs[i]?=some v->l[i]?=some x->VR w (MM Mx H ρ) ρ (DD H) v x
 |[],p,l,hr,_=>by simp only [resL] at hr;cases hr;exact ⟨[],by simp,rfl,by simp⟩
 | .tmp t::rs,p,l,hr,hp=>by
   simp only [resL] at hr
   split at hr
   ·rename_i p' l' h'
    cases hr
    obtain ⟨vs,h1,h2,h3⟩:=yhk h rs _ _ h' hp
    refine ⟨a.tmps.getD t undef::vs,?_,by simp [h2],fun i v x hv hx=>?_⟩
    ·simp only [List.mapM_cons,yie];simp only [Sem.run_bind,Sem.run_pure,Result.andThen_ok,h1]
    ·cases i with
     |zero=>simp only [List.getElem?_cons_zero,Option.some.injEq] at hv hx;subst hv hx;exact h.ev (.tmp t)
     |succ i=>exact h3 i v x (by simpa using hv) (by simpa using hx)
   ·cases hr
 | .cell d t::rs,p,l,hr,hp=>by
   simp only [resL] at hr
   split at hr
   ·rename_i q x p' l' hq h'
    cases hr
    obtain ⟨vs,h1,h2,h3⟩:=yhk h rs _ _ h' hp.2
    obtain ⟨z,hz,hzr⟩:=yjv (P:=P) h.objs (h.ev (.tmp d)) hq hp.1
    have hsure: ∀u:Value,∀z:Value,(Instr.loadAt t u).run P w= .ok z w->(do loadVar t (←asAddr u):Sem Value).run P w= .ok z w:=by
     intro u z hz
     cases u with
     |pointer o=>
      cases o with
      |some ad=>simpa [Instr.loadAt,Instr.sureAddr,asAddr] using hz
      |none=>simp [Instr.loadAt,Instr.sureAddr,stuck,Sem.run] at hz
     |_=>simp [Instr.loadAt,Instr.sureAddr,stuck,Sem.run] at hz
    refine ⟨z::vs,?_,by simp [h2],fun i v x hv hx=>?_⟩
    ·have hz':=hsure (a.tmps.getD d undef) z hz
     simp only [Sem.run_bind] at hz'
     simp only [List.mapM_cons,yie];simp only [Sem.run_bind,Sem.run_pure,hz',Result.andThen_ok,h1]
    ·cases i with
     |zero=>simp only [List.getElem?_cons_zero,Option.some.injEq] at hv hx;subst hv hx;exact hzr
     |succ i=>exact h3 i v x (by simpa using hv) (by simpa using hx)
   ·cases hr
theorem ynr: ∀(xs:List AV) (k t:Nat),fget (frOf k xs) t=if k<=t then xs.getD (t-k) .any else .any
 |[],k,t=>by simp [frOf,fget]
 |x::xs,k,t=>by
  simp only [frOf,fget]
  by_cases h:k=t
  ·subst h;simp
  ·rw [if_neg h,ynr xs (k+1) t]
   by_cases h2:k<=t
   ·rw [if_pos (by omega),if_pos h2]
    have:t-k=(t-(k+1))+1:=by omega
    rw [this];simp
   ·rw [if_neg (by omega),if_neg h2]
theorem yli (h:Sim B w0 Mx N w ρ fr H a) {fn:Func} {p:Prop} {l:List AV} (hr:resL P fr H fn.results.toList=some (p,l)) (hp:p): ∃v,(results fn a.tmps).run P w= .ok v w/\VR w (MM Mx H ρ) ρ (DD H) v (yeq l):=by
 obtain ⟨vs',h1,h2,h3⟩:=yhk (P:=P) h fn.results.toList p l hr hp
 have hm:(fn.results.mapM (yie a.tmps)).run P w= .ok vs'.toArray w:=by
  rw [Array.mapM_eq_mapM_toList]
  show Sem.run P (Functor.map List.toArray _) w=_
  simp only [Sem.run_map,h1,Result.andThen_ok]
 by_cases hv1:vs'.length=1
 ·match vs',hv1 with
  |[v],_=>
   match l,h2 with
   |[x],_=>
    refine ⟨v,?_,h3 0 v x rfl rfl⟩
    rw [ylh,Sem.run_bind,hm]
    simp
 ·have hl1:yeq l= .tup l:=by
   match l,h2 with
   |[],_=>rfl
   |[x],h2=>exact absurd h2 hv1
   |_::_::_,_=>rfl
  rw [hl1]
  refine ⟨.tuple vs'.toArray,?_, .tup vs' l h2 h3⟩
  rw [ylh,Sem.run_bind,hm]
  simp [hv1]
theorem yer (h:Sim B w0 Mx N w ρ fr H a) {f:Nat} {xs:List AV} {K:AV->Fr->Hp->Prop} (hc:yba P f xs fr H K) {vs:List Value} (hl:vs.length=xs.length)
  (hv: ∀(i:Nat) (v:Value) (x:AV),vs[i]?=some v->xs[i]?=some x->VR w (MM Mx H ρ) ρ (DD H) v x):
  FnOk P f/\Calls P f vs.toArray w fun e w'=> ∃v r ρ' fr' H',e= .returned v/\K r fr' H'/\Sim B w0 Mx N w' ρ' fr' H' a/\VR w' (MM Mx H' ρ') ρ' (DD H') v r:=by
 rcases hc.out.symm with hS|⟨fn,c,hf,hb,hn,hlen,hw⟩
 ·exact hS _ _ _ _ _ _ _ h vs hl hv
 refine ⟨⟨fn,hf,by rw [hb];rfl,hn⟩,calls_of_wp hf hb ?_⟩
 obtain ⟨g1,hg1⟩: ∃g1:Nat->Value,∀n,g1 n=gv w0 a (n-1000000):=⟨_,fun _=>rfl⟩
 let w1:ybi:=⟨w0.w,g1⟩
 have hgn: ∀(a:Act) (n:Nat),¬n<1000000->gv w1 a n=g1 n:=fun a n hn=>by unfold gv;rw [if_neg hn]
 let a1:Act:={tmps:=vs.toArray++Array.replicate (fn.ntmps-vs.toArray.size) undef,defers:=[]}
 have hsim:Sim B w1 Mx fn.ntmps w ρ (frOf 0 xs++lft fr) H a1:=by
  refine ⟨h.below,h.hB,h.mx,h.own,h.objs,h.inj,fun t=>?_,⟨rfl,h.defers.2⟩,by simp [a1];omega,hlen.2⟩
  by_cases ht:t<1000000
  ·have hgv:gv w1 a1 t=(vs.toArray++Array.replicate (fn.ntmps-vs.toArray.size) undef).getD t undef:=by unfold gv;rw [if_pos ht]
   rw [hgv]
   by_cases hx:t<xs.length
   ·have hvt:t<vs.length:=by omega
    have e1:(vs.toArray++Array.replicate (fn.ntmps-vs.toArray.size) undef).getD t undef=vs[t]:=by
     rw [Array.getD_eq_getD_getElem?,Array.getElem?_append_left (by simpa using hvt)];simp [hvt]
    have e2:fget (frOf 0 xs++lft fr) t=xs[t]:=by
     have gen: ∀(xs:List AV) (k t:Nat) (F:Fr) (hx:k<=t/\t-k<xs.length),fget (frOf k xs++F) t=xs[t-k]'hx.2:=by
      intro xs
      induction xs with
      |nil=>intro k t F hx;simp at hx
      |cons x xs ih=>
       intro k t F hx
       simp only [frOf,List.cons_append,fget]
       by_cases e:k=t
       ·subst e;simp
       ·rw [if_neg e,ih (k+1) t F ⟨by omega,by simp at hx;omega⟩]
        simp [show t-k=(t-(k+1))+1 by omega]
     simpa using gen xs 0 t (lft fr) ⟨Nat.zero_le _,by simpa using hx⟩
    rw [e1,e2]
    exact hv t vs[t] xs[t] (List.getElem?_eq_getElem hvt) (List.getElem?_eq_getElem hx)
   ·have e2:fget (frOf 0 xs++lft fr) t= .any:=by
     rw [ygt _ _ _ (fun s x hsx e=>?_),yfv,if_neg (by omega)]
     have gen: ∀(xs:List AV) (k s:Nat) (x:AV),(s,x)∈frOf k xs->s<k+xs.length:=by
      intro xs
      induction xs with
      |nil=>intro k s x hx;simp [frOf] at hx
      |cons y ys ih=>
       intro k s x hx
       simp only [frOf,List.mem_cons] at hx
       rcases hx with hx|hx
       ·cases hx;simp
       ·have:=ih (k+1) s x hx;simp;omega
     have:=gen xs 0 s x hsx
     omega
    rw [e2];exact .any _
  ·have hgv:gv w1 a1 t=gv w0 a (t-1000000):=by rw [hgn _ _ ht,hg1]
   have e2:fget (frOf 0 xs++lft fr) t=fget fr (t-1000000):=by
    rw [ygt _ _ _ (fun s x hsx e=>?_),yfv,if_pos (by omega)]
    have gen: ∀(xs:List AV) (k s:Nat) (x:AV),(s,x)∈frOf k xs->s<k+xs.length:=by
     intro xs
     induction xs with
     |nil=>intro k s x hx;simp [frOf] at hx
     |cons y ys ih=>
      intro k s x hx
      simp only [frOf,List.mem_cons] at hx
      rcases hx with hx|hx
      ·cases hx;simp
      ·have:=ih (k+1) s x hx;simp;omega
    have:=gen xs 0 s x hsx
    omega
   rw [hgv,e2];exact h.frv _
 refine wp_mono (hw B w1 Mx w ρ a1 hsim) ?_
 rintro e a' w' ⟨ρ',fr',H',⟨he,hr⟩,hs⟩
 split at hr
 ·rename_i p l hres
  obtain ⟨hp,hk⟩:=hr
  obtain ⟨v,hrun,hvr⟩:=yli (P:=P) hs hres hp
  have hsim2:Sim B w0 Mx N w' ρ' (unl fr') H' a:=by
   refine ⟨hs.below,hs.hB,hs.mx,hs.own,hs.objs,hs.inj,fun t=>?_,h.defers,h.size⟩
   have:=hs.frv (t+1000000)
   have hgv:gv w1 a' (t+1000000)=gv w0 a t:=by
    rw [hgn _ _ (by omega),hg1,Nat.add_sub_cancel]
   rw [hgv] at this
   rw [ykf];exact this
  have hpost:bodyPost P fn (fun e w'=> ∃v r ρ' fr' H',e= .returned v/\K r fr' H'/\Sim B w0 Mx N w' ρ' fr' H' a/\VR w' (MM Mx H' ρ') ρ' (DD H') v r) .ret a' w':=⟨hs.defers.1,v,hrun,v,_,ρ',_,H',rfl,hk,hsim2,hvr⟩
  rcases he with rfl|rfl
  ·exact hpost
  ·exact hpost
 ·exact hr.elim
theorem yj4 (h:Sim B w0 Mx N w ρ fr H a) {f:Nat} {xs:List AV} {K:AV->Fr->Hp->Prop} (hp:xs.all p3=true) (hc:yuc P f xs fr H K) {vs:List Value} (hl:vs.length=xs.length)
  (hv: ∀(i:Nat) (v:Value) (x:AV),vs[i]?=some v->xs[i]?=some x->VR w (MM Mx H ρ) ρ (DD H) v x):
  FnOk P f/\Calls P f vs.toArray w fun e w'=> ∃v r ρ' fr' H',e= .returned v/\K r fr' H'/\Sim B w0 Mx N w' ρ' fr' H' a/\VR w' (MM Mx H' ρ') ρ' (DD H') v r:=by
 rcases hc with ⟨r,⟨hok,hfn⟩,hk⟩|⟨r,H0,⟨hok,hfn⟩,hk⟩|hc
 ·refine ⟨hok,(hfn w (MM Mx H ρ) vs ⟨h.good,h.mm_lt⟩ hl fun i v x h1 h2=>(hv i v x h1 h2).pure3 (List.all_eq_true.1 hp _ (List.mem_of_getElem? h2))).mono ?_⟩
  rintro e w' ⟨v,rfl,hb,hr⟩
  exact ⟨v,r,ρ,fr,H,rfl,hk,h.later hb,hr.D0⟩
 ·refine ⟨hok,(hfn w (MM Mx H ρ) vs ⟨h.good,h.mm_lt⟩ hl fun i v x h1 h2=>(hv i v x h1 h2).pure3 (List.all_eq_true.1 hp _ (List.mem_of_getElem? h2))).mono ?_⟩
  rintro e w' ⟨v,ρ',rfl,hs,hr⟩
  obtain ⟨_,j2,j3⟩:=h.join (fun i hi=>yec hi) rfl hs
  exact ⟨v,_,_,_,_,rfl,hk,j2,j3 v r hr⟩
 ·exact yer h hc hl hv
theorem yrh (h:Sim B w0 Mx N w ρ fr H a) {f:Nat} {xs:List AV} {K:AV->Fr->Hp->Prop} (hc:yae P f xs fr H K) {vs:List Value} (hl:vs.length=xs.length)
  (hv: ∀(i:Nat) (v:Value) (x:AV),vs[i]?=some v->xs[i]?=some x->VR w (MM Mx H ρ) ρ (DD H) v x):
  FnOk P f/\Calls P f vs.toArray w fun e w'=> ∃v r ρ' fr' H',e= .returned v/\K r fr' H'/\Sim B w0 Mx N w' ρ' fr' H' a/\VR w' (MM Mx H' ρ') ρ' (DD H') v r:=by
 unfold yae at hc
 split at hc
 ·rename_i hp;exact yj4 h hp hc hl hv
 ·rename_i hp
  rcases hc with ⟨hs,r,hfn,hf,hk⟩|⟨ids,h1,h2,h3,h4,hq⟩|hc
  ·obtain ⟨hok,hcalls⟩:=yj3 (P:=P) (K:=fun r=>K r fr H) h (by unfold ybd;rw [if_neg hp];exact ⟨hs,r, .inl ⟨hfn,hf⟩,hk⟩) hl hv
   exact ⟨hok,hcalls.mono fun e w' ⟨v,r,e1,e2,e3,e4,_⟩=>⟨v,r,ρ,fr,H,e1,e2,e3,e4⟩⟩
  ·have hz:=h.freeze (HF:=hsel H ids) (fun i o=>yhj i o) h1 h2
   refine yj4 hz h4 hq (by simpa using hl) fun i v x g1 g2=>?_
   simp only [List.getElem?_map] at g2
   obtain ⟨x',k1,rfl⟩:=Option.map_eq_some_iff.1 g2
   exact yvp h (fun i o=>yhj i o) 4 v x' (hv i v x' g1 k1) (h3 _ (List.mem_of_getElem? k1))
  ·exact yer h hc hl hv
theorem yex {o:Oper} {K:Fr->Hp->Prop} (h:Sim B w0 Mx N w ρ fr H a) (hk:awO P N o fr H K) (Q:Exit->Act->World->Prop):
  o.wp P a w (fun a' w'=> ∃ρ' fr' H',K fr' H'/\Sim B w0 Mx N w' ρ' fr' H' a') Q:=by
 unfold awO at hk
 obtain ⟨hcv,hk⟩:=hk
 have hcv': ∀s d x,o.op= .convert s d x-> ∃e,P.underlying s=some e:=fun s d x ho=>by
  rw [ho] at hcv
  simp only [cvOk] at hcv
  cases hu:P.underlying s with
  |some e=>exact ⟨e,rfl⟩
  |none=>simp [tk,hu] at hcv
 unfold Oper.wp
 split at hk
 ·rename_i p r hq
  obtain ⟨hp,hd,hK⟩:=hk
  obtain ⟨v,hrun,hv⟩:=ygl (P:=P) h.objs h.ev hcv' hq hp
  rw [hrun]
  exact ⟨ρ,_,_,hK,h.put hd hv⟩
 ·split at hk
  ·rename_i p r ob hal
   obtain ⟨hp,hd,hK⟩:=hk
   obtain ⟨v,w',hrun,hs,hv,_⟩:=ynm (P:=P) h (yec (Nat.le_refl _)) hal hp
   rw [hrun]
   exact ⟨_,_,_,hK,hs.put hd hv⟩
  ·unfold awX at hk
   split at hk
   ·rename_i t x y ho
    split at hk
    ·rename_i p id ob hst
     obtain ⟨hp,hd,hK⟩:=hk
     obtain ⟨w',hrun,hs⟩:=ynj (P:=P) h (h.ev x) (h.ev y) hst hp
     have:(execOp a.eval o).run P w= .ok .skip w':=by simp only [execOp,ho];simp [hrun]
     rw [this]
     exact ⟨_,_,_,hK,hs.put hd (.any _)⟩
    ·exact hk.elim
   ·rename_i t m k x ho
    split at hk
    ·rename_i id ob hst
     obtain ⟨hd,hK⟩:=hk
     obtain ⟨w',hrun,hs⟩:=ynk (P:=P) h (h.ev m) (h.ev k) (h.ev x) hst
     have:(execOp a.eval o).run P w= .ok .skip w':=by simp only [execOp,ho];simp [hrun]
     rw [this]
     exact ⟨_,_,_,hK,hs.put hd (.any _)⟩
    ·exact hk.elim
   ·rename_i c ho
    split at hk
    ·rename_i hcal
     split at hk
     ·rename_i s x t t' h1 h2
      obtain ⟨rfl,hk⟩:=hk
      split at hk
      ·rename_i p r fr' H' hap
       obtain ⟨hp,hd,hK⟩:=hk
       obtain ⟨z,w',ρ',hrun,hs,hv⟩:=yvo (P:=P) (ty:=o.type) h (h.ev s) (h.ev x) hap hp
       obtain ⟨callee,args,ts⟩:=c
       simp only at hcal h1 h2
       have e1:args= #[s,x]:=by simpa using congrArg List.toArray h1
       have e2:ts= #[t,t]:=by simpa using congrArg List.toArray h2
       subst e1 e2 hcal
       have:(execOp a.eval o).run P w= .ok (.value z) w':=by simp [execOp,ho,resolve,invoke,builtin,hrun]
       rw [this]
       exact ⟨_,_,_,hK,hs.put hd hv⟩
      ·exact hk.elim
     ·exact hk.elim
    ·rename_i f hcal
     split at hk
     ·rename_i g cap hf
      obtain ⟨hd,hk⟩:=hk
      obtain ⟨vs,ef,hl,hx⟩:=(hf▸h.ev f).fn_inv
      have hcall:=yrh (P:=P) h hk (vs:=c.args.toList.map a.eval++vs) (by simp [hl]) (fun i v x h1 h2=>by
       by_cases hi:i<c.args.toList.length
       ·rw [List.getElem?_append_left (by simpa using hi),List.getElem?_map] at h1 h2
        rw [List.getElem?_eq_getElem hi] at h1 h2
        cases h1;cases h2;exact h.ev _
       ·rw [List.getElem?_append_right (by simpa using hi)] at h1 h2
        simp only [List.length_map] at h1 h2
        exact hx _ v x h1 h2)
      obtain ⟨hok,hcalls⟩:=hcall
      have e1:(c.args.map a.eval++vs.toArray)=(c.args.toList.map a.eval++vs).toArray:=by
       obtain ⟨callee,⟨l⟩,ts⟩:=c;simp
      have:(execOp a.eval o).run P w= .ok (.enter g (c.args.toList.map a.eval++vs).toArray) w:=by
       simp only [execOp,ho,resolve,hcal,ef]
       have h3:(#[]++Array.map a.eval c.args++vs.toArray)=(c.args.toList.map a.eval++vs).toArray:=by rw [Array.empty_append];exact e1
       simp only [Deferred.ofValue,invoke,Sem.run_bind,Sem.run_pure,Result.andThen_ok,h3]
       exact yfw hok _
      rw [this]
      refine hcalls.mono ?_
      rintro e w' ⟨v,r,ρ',fr',H',rfl,hK,hs,hv⟩
      exact ⟨_,_,_,hK,hs.put hd hv⟩
     ·exact hk.elim
    ·exact hk.2 _ _ _ _ _ _ h Q
   ·exact hk.2 _ _ _ _ _ _ h Q
theorem ye9 (h:Sim B w0 Mx N w ρ fr H a) {ops:Array Oper} {j:Nat} {c:Bool} (hg:gval ops fr j= .bool c):yielded ops a.tmps j=some c:=by
 unfold gval at hg
 unfold yielded
 cases hd:(ops[j]?).bind (·.dst) with
 |none=>rw [hd] at hg;cases hg
 |some d=>
  rw [hd] at hg
  simp only at hg
  split at hg
  case isFalse=>cases hg
  rename_i hlt
  have hv:=h.frv d
  rw [hg,gv,if_pos hlt] at hv
  have e:=hv.bool_inv
  cases ht:a.tmps[d]? with
  |none=>simp [Array.getD_eq_getD_getElem?,ht,undef] at e
  |some u=>simp [Array.getD_eq_getD_getElem?,ht] at e;subst e;simp [ht]
theorem yhl (h:Sim B w0 Mx N w ρ fr H a) {ops:Array Oper} {j:Nat} (hg:gval ops fr j= .tup []):yielded ops a.tmps j=none:=by
 unfold gval at hg
 unfold yielded
 cases hd:(ops[j]?).bind (·.dst) with
 |none=>rw [hd] at hg;cases hg
 |some d=>
  rw [hd] at hg
  simp only at hg
  split at hg
  case isFalse=>cases hg
  rename_i hlt
  have hv:=h.frv d
  rw [hg,gv,if_pos hlt] at hv
  have e: ∃vs,a.tmps.getD d undef= .tuple vs:=by
   generalize a.tmps.getD d undef=v at hv
   cases hv;exact ⟨_,rfl⟩
  obtain ⟨vs,e⟩:=e
  cases ht:a.tmps[d]? with
  |none=>simp [ht]
  |some u=>simp [Array.getD_eq_getD_getElem?,ht] at e;subst e;simp [ht]
theorem Sim.gput (h:Sim B w0 Mx N w ρ fr H a) {ops:Array Oper} {j:Nat} {c:Bool} (hg:gval ops fr j= .bool c):Sim B w0 Mx N w ρ (gput ops fr j c) H a:=by
 unfold Go.Proofs.YtfgbnalnbdhimaaGreatDoor.gput
 unfold gval at hg
 split
 ·rename_i d hd
  rw [hd] at hg
  simp only at hg
  split at hg
  ·refine ⟨h.below,h.hB,h.mx,h.own,h.objs,h.inj,fun t=>?_,h.defers,h.size⟩
   simp only [fget]
   split
   ·rename_i e;subst e;rw [←hg];exact h.frv d
   ·exact h.frv t
  ·cases hg
 ·exact h
theorem ygm {ops:Array Oper} {Q:Exit->Fr->Hp->Prop}: ∀(n k:Nat) (w:World) (ρ:Nat->Addr) (fr:Fr) (H:Hp) (a:Act),k+n=ops.size->awL P N ops (ops.toList.drop k) fr H (Q .normal)->Sim B w0 Mx N w ρ fr H a->
  wpOps P ops (fun e a' w'=> ∃ρ' fr' H',Q e fr' H'/\Sim B w0 Mx N w' ρ' fr' H' a') (List.range' k n) a w
 |0,k,w,ρ,fr,H,a,hk,hq,hs=>by
  rw [List.drop_of_length_le (by simp;omega)] at hq
  simp only [awL] at hq
  simp only [List.range'_zero,wpOps]
  exact ⟨ρ,fr,H,hq,hs⟩
 |n+1,k,w,ρ,fr,H,a,hk,hq,hs=>by
  have hlt:k<ops.size:=by omega
  rw [List.drop_eq_getElem_cons (by simpa using hlt)] at hq
  simp only [awL,Array.getElem_toList] at hq
  rw [List.range'_succ]
  simp only [wpOps,Array.getElem?_eq_getElem hlt]
  have hmono: ∀{K:Fr->Hp->Prop},(∀fr' H',K fr' H'->awL P N ops (ops.toList.drop (k+1)) fr' H' (Q .normal))-> ∀(a':Act) (w':World),(∃ρ' fr' H',K fr' H'/\Sim B w0 Mx N w' ρ' fr' H' a')->
   wpOps P ops (fun e a' w'=> ∃ρ' fr' H',Q e fr' H'/\Sim B w0 Mx N w' ρ' fr' H' a') (List.range' (k+1) n) a' w':=fun hK a' w' ⟨ρ',fr',H',h1,h2⟩=>ygm n (k+1) w' ρ' fr' H' a' (by omega) (hK _ _ h1) h2
  split at hq
  ·rename_i hg
   have hw:Region.wanted ops[k] (yielded ops a.tmps)=true:=by simp [Region.wanted,hg]
   rw [if_pos hw]
   exact .inl (Oper.wp_mono (hmono fun _ _ h=>h) (yex hs hq _))
  ·rename_i j b hg
   split at hq
   ·rename_i c hc
    have hy:=ye9 hs hc
    by_cases hcb:c=b
    ·have hw:Region.wanted ops[k] (yielded ops a.tmps)=true:=by simp [Region.wanted,hg,hy,hcb]
     rw [if_pos hw]
     exact .inl (Oper.wp_mono (hmono fun _ _ h=>h) (yex (hs.gput (hcb▸hc)) (hq.1 hcb) _))
    ·have hw: ¬Region.wanted ops[k] (yielded ops a.tmps)=true:=by simp [Region.wanted,hg,hy,hcb]
     rw [if_neg hw]
     have hcb':c= !b:=by cases c<;>cases b<;>simp_all
     obtain ⟨hd,hq⟩:=hq.2 hcb'
     exact ygm n (k+1) w ρ _ H _ (by omega) hq ((hs.gput (hcb'▸hc)).put hd (.tup [] [] rfl (fun i v x h=>by simp at h)))
   ·rename_i hc
    have hy:=yhl hs hc
    have hw: ¬Region.wanted ops[k] (yielded ops a.tmps)=true:=by simp [Region.wanted,hg,hy]
    rw [if_neg hw]
    obtain ⟨hd,hq⟩:=hq
    exact ygm n (k+1) w ρ _ H _ (by omega) hq (hs.put hd (.tup [] [] rfl (fun i v x h=>by simp at h)))
   ·exact hq.elim
theorem WpA.mono {c:Code} {Q Q':Exit->Fr->Hp->Prop} (h:WpA P N c fr H Q) (hq: ∀e fr H,Q e fr H->Q' e fr H):WpA P N c fr H Q':=
 fun B w0 Mx w ρ a hs=>wp_mono (h B w0 Mx w ρ a hs) fun _ _ _ ⟨ρ',fr',H',h1,h2⟩=>⟨ρ',fr',H',hq _ _ _ h1,h2⟩
def Wk (fr:Fr) (H:Hp) (fr':Fr) (H':Hp):Prop:= ∀(B:Nat) (w0:ybi) (Mx:Nat->Prop) (N:Nat) (w:World) (ρ:Nat->Addr) (a:Act),Sim B w0 Mx N w ρ fr H a-> ∃ρ',Sim B w0 Mx N w ρ' fr' H' a
theorem WpA.wk {c:Code} {Q:Exit->Fr->Hp->Prop} {fr':Fr} {H':Hp} (hw:Wk fr H fr' H') (h:WpA P N c fr' H' Q):WpA P N c fr H Q:=
 fun B w0 Mx w ρ a hs=>let ⟨ρ',hs'⟩:=hw B w0 Mx N w ρ a hs;h B w0 Mx w ρ' a hs'
def yfa (Q:Exit->Fr->Hp->Prop) (K:Fr->Hp->Prop):Exit->Fr->Hp->Prop
 | .normal,fr,H=>K fr H
 |e,fr,H=>Q e fr H
def yef (id:Nat) (Q:Exit->Fr->Hp->Prop):Exit->Fr->Hp->Prop
 | .exit id',fr,H=>if id'=id then Q .normal fr H else Q (.exit id') fr H
 |e,fr,H=>Q e fr H
structure yai (P:Program) (N:Nat) (c:Code) (fr:Fr) (H:Hp) (Q:Exit->Fr->Hp->Prop):Prop where
 out:WpA P N (.loop c) fr H Q
structure ya2 (P:Program) (N:Nat) (id:Nat) (ops:Array Oper) (fr:Fr) (H:Hp) (Q:Exit->Fr->Hp->Prop):Prop where
 out:WpA P N (.region id ops true) fr H Q
def awR (P:Program) (N:Nat) (ops:Array Oper) (fr:Fr) (H:Hp) (K:Fr->Hp->Prop):Prop:=awL P N ops ops.toList fr H K
theorem y48 {P:Program} {N:Nat} (l:List Oper) {fr:Fr} {H:Hp} {K:Fr->Hp->Prop}:awR P N l.toArray fr H K=awL P N l.toArray l fr H K:=rfl
def awC (P:Program) (N:Nat):Code->Fr->Hp->(Exit->Fr->Hp->Prop)->Prop
 | .skip,fr,H,Q=>Q .normal fr H
 | .region _ ops false,fr,H,Q=>awR P N ops fr H (Q .normal)
 | .region id ops true,fr,H,Q=>ya2 P N id ops fr H Q
 | .seq x y,fr,H,Q=>awC P N x fr H (yfa Q fun fr' H'=>WpA P N y fr' H' Q)
 | .cond c x y,fr,H,Q=>match evA fr c with
   | .bool b=>gsp b true (awC P N x fr H Q) (awC P N y fr H Q)
   |_=>False
 | .block id c,fr,H,Q=>awC P N c fr H (yef id Q)
 | .loop c,fr,H,Q=>yai P N c fr H Q
 | .exit id,fr,H,Q=>Q (.exit id) fr H
 | .ret,fr,H,Q=>Q .ret fr H
 | .label _,fr,H,Q=>Q .normal fr H
 |_,_,_,_=>False
theorem yaa: ∀(c:Code) (fr:Fr) (H:Hp) (Q:Exit->Fr->Hp->Prop),awC P N c fr H Q->WpA P N c fr H Q:=by
 intro c
 induction c with
 |skip=>intro fr H Q h B w0 Mx w ρ a hs;exact wp_skip ⟨ρ,fr,H,h,hs⟩
 |region id ops d=>
  intro fr H Q h
  cases d with
  |true=>exact h.out
  |false=>
   intro B w0 Mx w ρ a hs
   refine wp_region ?_
   rw [List.range_eq_range']
   exact ygm ops.size 0 w ρ fr H a (by omega) (show awL P N ops (ops.toList.drop 0) fr H (Q .normal) from by rw [List.drop_zero];exact h) hs
 |seq x y ihx _=>
  intro fr H Q h B w0 Mx w ρ a hs
  refine wp_seq (wp_mono (ihx fr H _ h B w0 Mx w ρ a hs) ?_)
  rintro e a' w' ⟨ρ',fr',H',h1,h2⟩
  cases e with
  |normal=>exact h1 B w0 Mx w' ρ' a' h2
  |_=>exact ⟨ρ',fr',H',h1,h2⟩
 |cond c x y ihx ihy=>
  intro fr H Q h B w0 Mx w ρ a hs
  simp only [awC] at h
  split at h
  ·rename_i b hb
   have e:=(hb▸hs.ev c).bool_inv
   cases b with
   |true=>exact wp_cond_true e (ihx fr H Q (h.1 rfl) B w0 Mx w ρ a hs)
   |false=>exact wp_cond_false e (ihy fr H Q (h.2 rfl) B w0 Mx w ρ a hs)
  ·exact h.elim
 |block id c ih=>
  intro fr H Q h B w0 Mx w ρ a hs
  refine wp_block (wp_mono (ih fr H _ h B w0 Mx w ρ a hs) ?_)
  rintro e a' w' ⟨ρ',fr',H',h1,h2⟩
  cases e with
  |exit id'=>
   simp only [yef] at h1
   simp only [Exit.inBlock]
   split
   ·rename_i hh;rw [if_pos hh] at h1;exact ⟨ρ',fr',H',h1,h2⟩
   ·rename_i hh;rw [if_neg hh] at h1;exact ⟨ρ',fr',H',h1,h2⟩
  |_=>exact ⟨ρ',fr',H',h1,h2⟩
 |loop c _=>intro fr H Q h;exact h.out
 |exit id=>intro fr H Q h B w0 Mx w ρ a hs;exact wp_exit ⟨ρ,fr,H,h,hs⟩
 |ret=>intro fr H Q h B w0 Mx w ρ a hs;exact wp_ret ⟨ρ,fr,H,h,hs⟩
 |label l=>intro fr H Q h B w0 Mx w ρ a hs;exact wp_label ⟨ρ,fr,H,h,hs⟩
 |_=>intro fr H Q h;exact h.elim
theorem yai.intro {c:Code} {Q:Exit->Fr->Hp->Prop} (Inv:Nat->Fr->Hp->Prop) (h0: ∃n fr0 H0,Wk fr H fr0 H0/\Inv n fr0 H0)
  (hr: ∀n fr H,Inv n fr H->WpA P N c fr H (yfa Q fun fr' H'=> ∃m fr1 H1,m<n/\Wk fr' H' fr1 H1/\Inv m fr1 H1)):yai P N c fr H Q:=by
 refine ⟨?_⟩
 intro B w0 Mx w ρ a hs
 obtain ⟨n0,fr0,H0,hw0,hi0⟩:=h0
 obtain ⟨ρ0',hs0⟩:=hw0 B w0 Mx N w ρ a hs
 have hind: ∀(n:Nat) (a:Act) (w:World),(∃ρ fr H,Inv n fr H/\Sim B w0 Mx N w ρ fr H a)-> ∀(b:Frame) (k:List Item) (cs:List Frame),
   ∃e a' w',(∃ρ' fr' H',Q e fr' H'/\Sim B w0 Mx N w' ρ' fr' H' a')/\Arrives P (lone (b.at a (.code c:: .inLoop c::k)) cs w) b k cs e a' w':=by
  intro n
  induction n using Nat.strongRecOn with
  |_ n ih=>
   intro a w hI b k cs
   obtain ⟨ρ,fr,H,hinv,hs⟩:=hI
   obtain ⟨e,a₁,w₁,hq,harr⟩:=hr n fr H hinv B w0 Mx w ρ a hs b (.inLoop c::k) cs
   obtain ⟨ρ1,fr1,H1,hq,hs1⟩:=hq
   cases e with
   |normal=>
    obtain ⟨m,fr2,H2,hlt,hwk,hi⟩:=hq
    obtain ⟨ρ2,hs2⟩:=hwk B w0 Mx N w₁ ρ1 a₁ hs1
    obtain ⟨e₂,a₂,w₂,hq₂,harr₂⟩:=ih m hlt a₁ w₁ ⟨ρ2,fr2,H2,hi,hs2⟩ b k cs
    exact ⟨e₂,a₂,w₂,hq₂, .of_steps (Steps.trans harr (.one step_inLoop)) harr₂⟩
   |exit id=>exact ⟨_,a₁,w₁,⟨ρ1,fr1,H1,hq,hs1⟩, .pass (x:= .inLoop c) rfl (fun _ _=> .inl (by simp)) harr⟩
   |goto l=>exact ⟨_,a₁,w₁,⟨ρ1,fr1,H1,hq,hs1⟩, .pass (x:= .inLoop c) rfl (fun _ _=> .inl (by simp)) harr⟩
   |ret=>exact ⟨_,a₁,w₁,⟨ρ1,fr1,H1,hq,hs1⟩, .pass (x:= .inLoop c) rfl (fun _ _=> .inl (by simp)) harr⟩
   |panic ch=>exact ⟨_,a₁,w₁,⟨ρ1,fr1,H1,hq,hs1⟩, .pass (x:= .inLoop c) rfl (fun _ _=> .inl (by simp)) harr⟩
   |outgrown=>exact ⟨_,a₁,w₁,⟨ρ1,fr1,H1,hq,hs1⟩, .pass (x:= .inLoop c) rfl (fun _ _=> .inl (by simp)) harr⟩
 intro b k cs
 obtain ⟨e,a',w',hq,harr⟩:=hind n0 a w ⟨ρ0',fr0,H0,hi0,hs0⟩ b k cs
 exact ⟨e,a',w',hq, .of_steps (.one step_loop) harr⟩
theorem Wk.trans {fr fr1 fr2:Fr} {H H1 H2:Hp} (h:Wk fr H fr1 H1) (k:Wk fr1 H1 fr2 H2):Wk fr H fr2 H2:=fun B w0 Mx N w ρ a hs=>let ⟨ρ1,h1⟩:=h B w0 Mx N w ρ a hs;k B w0 Mx N w ρ1 a h1
def s1 (H:Hp):AV->Bool
 | .ptr i _=>(hget H i).isSome
 | .sl _ i _ _=>(hget H i).isSome
 | .mp i=>(hget H i).isSome
 | .agg _| .tup _| .fn _ _=>false
 |_=>true
def s2 (H:Hp):AV->Bool
 | .agg xs=>xs.all (s1 H)
 | .fn _ xs=>xs.all (s1 H)
 |x=>s1 H x
def s3 (H:Hp):AV->Bool
 | .agg xs=>xs.all (s2 H)
 | .tup xs=>xs.all (s2 H)
 | .fn _ xs=>xs.all (s2 H)
 |x=>s1 H x
def sO (H:Hp):AObj->Bool
 | .cells _ (.lst l)=>l.all (s3 H)
 | .imap _ l=>l.all fun q=>s3 H q.2
 | .gmap _ _ l=>l.all fun q=>s3 H q.2.2
 | .iter mid _ _ _=>(hget H mid).isSome
 |_=>true
theorem VR.sc1 {M:Nat->Prop} {D:Nat->Prop} {H:Hp} {v:Value} {x:AV} (h:VR w M ρ D v x) (hp:s1 H x=true):VR w M ρ (DD H) v x:=by
 have hs: ∀i,(hget H i).isSome=true->DD H i:=fun i hi=>Option.isSome_iff_exists.1 hi
 cases h with
 |any=>exact .any _
 |int=>exact .int _ _
 |bool=>exact .bool _
 |str=>exact .str _
 |nils=>exact .nils
 |ro es len c ad cap x hl hc he h0 hv=>exact .ro es len c ad cap x hl hc he h0 hv
 |rp c off a x hb hm hj hv=>exact .rp c off a x hb hm hj hv
 |ptr i off hd=>exact .ptr i off (hs i hp)
 |sl es i off len cap hd hc arr t ad ha hb hr=>exact .sl es i off len cap (hs i hp) hc arr t ad ha hb hr
 |mp i hd=>exact .mp i (hs i hp)
 |_=>cases hp
theorem VR.sc2 {M:Nat->Prop} {D:Nat->Prop} {H:Hp} {v:Value} {x:AV} (h:VR w M ρ D v x) (hp:s2 H x=true):VR w M ρ (DD H) v x:=by
 cases x with
 |agg xs=>
  obtain ⟨vs,rfl,hl,hx⟩:=h.agg_inv
  exact .agg vs xs hl fun i v x h1 h2=>(hx i v x h1 h2).sc1 (List.all_eq_true.1 hp _ (List.mem_of_getElem? h2))
 |fn f xs=>
  obtain ⟨vs,rfl,hl,hx⟩:=h.fn_inv
  exact .fn f vs xs hl fun i v x h1 h2=>(hx i v x h1 h2).sc1 (List.all_eq_true.1 hp _ (List.mem_of_getElem? h2))
 |_=>exact h.sc1 hp
theorem VR.sc3 {M:Nat->Prop} {D:Nat->Prop} {H:Hp} {v:Value} {x:AV} (h:VR w M ρ D v x) (hp:s3 H x=true):VR w M ρ (DD H) v x:=by
 cases x with
 |agg xs=>
  obtain ⟨vs,rfl,hl,hx⟩:=h.agg_inv
  exact .agg vs xs hl fun i v x h1 h2=>(hx i v x h1 h2).sc2 (List.all_eq_true.1 hp _ (List.mem_of_getElem? h2))
 |fn f xs=>
  obtain ⟨vs,rfl,hl,hx⟩:=h.fn_inv
  exact .fn f vs xs hl fun i v x h1 h2=>(hx i v x h1 h2).sc2 (List.all_eq_true.1 hp _ (List.mem_of_getElem? h2))
 |tup xs=>
  obtain ⟨vs,rfl,hl,hx⟩:=h.tup_inv
  exact .tup vs xs hl fun i v x h1 h2=>(hx i v x h1 h2).sc2 (List.all_eq_true.1 hp _ (List.mem_of_getElem? h2))
 |_=>exact h.sc1 hp
def subF (fr:Fr) (H':Hp):Fr->Prop
 |[]=>True
 |(t,x)::r=>fget fr t=x/\s3 H' x=true/\subF fr H' r
def subH (H H':Hp):Hp->Prop
 |[]=>True
 |(i,o)::r=>hget H i=some o/\sO H' o=true/\subH H H' r
theorem ykg {fr:Fr} {H':Hp}: ∀{fr':Fr},subF fr H' fr'-> ∀t,fget fr' t= .any\/(fget fr' t=fget fr t/\s3 H' (fget fr' t)=true)
 |[],_,t=> .inl rfl
 |(s,x)::r,h,t=>by
  obtain ⟨h1,h2,h3⟩:=h
  simp only [fget]
  split
  ·rename_i e;subst e;exact .inr ⟨h1.symm,h2⟩
  ·exact ykg h3 t
theorem yeg {H H':Hp}: ∀{K:Hp},subH H H' K-> ∀i o,hget K i=some o->hget H i=some o/\sO H' o=true
 |[],_,i,o,h=>by cases h
 |(j,q)::r,h,i,o,hg=>by
  obtain ⟨h1,h2,h3⟩:=h
  simp only [hget] at hg
  split at hg
  ·rename_i e;subst e;cases hg;exact ⟨h1,h2⟩
  ·exact yeg h3 i o hg
theorem Sim.subW {fr fr':Fr} {H H':Hp} (hf:subF fr H' fr') (hh:subH H H' H') (hs:Sim B w0 Mx N w ρ fr H a):Sim B w0 Mx N w ρ fr' H' a:=by
 refine (hs.weaken (fun id o ho=>(yeg hh id o ho).1) (fun t=>(ykg hf t).imp id (·.1)) (fun id o ho M hr=>?_) (fun t M v hv=>?_))
 ·have hso:=(yeg hh id o ho).2
  cases o with
  |gone=>trivial
  |cells t c=>
   obtain ⟨k1,arr,k2,k3,k4⟩:=hr
   refine ⟨k1,arr,k2,k3,fun j hj=>?_⟩
   obtain ⟨u,hu,hv⟩:=k4 j hj
   refine ⟨u,hu,?_⟩
   cases c with
   |ints l=>exact hv.pure1 rfl
   |bools l=>exact hv.pure1 rfl
   |lst l=>
    simp only [Cs.len] at hj
    simp only [Cs.get,List.getD_eq_getElem?_getD,List.getElem?_eq_getElem hj,Option.getD_some] at hv⊢
    exact hv.sc3 (List.all_eq_true.1 hso _ (List.getElem_mem hj))
  |gmap t ck l=>
   obtain ⟨es,k1,k2,k3⟩:=hr
   exact ⟨es,k1,k2,fun j e q he hl=>let ⟨g1,g2,g3⟩:=k3 j e q he hl;⟨g1,g2,g3.sc3 (List.all_eq_true.1 hso q (List.mem_of_getElem? hl))⟩⟩
  |iter mid s sn la=>
   obtain ⟨_,k2,k3⟩:=hr
   exact ⟨Option.isSome_iff_exists.1 hso,k2,k3⟩
  |imap t l=>
   obtain ⟨k0,es,ck,k1,k2,k3⟩:=hr
   exact ⟨k0,es,ck,k1,k2,fun j e k x he hl=>let ⟨g1,g2,g3⟩:=k3 j e k x he hl;⟨g1,g2.sc3 (List.all_eq_true.1 hso (k,x) (List.mem_of_getElem? hl)),g3⟩⟩
  |fmap t c=>exact hr
 ·rcases ykg hf t with e|⟨_,e⟩
  ·rw [e];exact .any _
  ·exact hv.sc3 e
theorem Wk.sub {fr fr':Fr} {H H':Hp} (hf:subF fr H' fr') (hh:subH H H' H'):Wk fr H fr' H':=fun _ _ _ _ _ ρ _ hs=>⟨ρ,hs.subW hf hh⟩
def retA (P:Program) (rs:List ResultVar) (r:AV) (e:Exit) (fr:Fr) (H:Hp):Prop:=
 (e= .ret\/e= .normal)/\match resL P fr H rs with
 |some (p,l)=>p/\yan H 6 (yeq l)/\snap H 6 (yeq l)=r
 |none=>False
theorem Fn.intro {f:Nat} {fn:Func} {c:Code} {args:List AV} {r:AV} (rs:List ResultVar) (hf:P.funcs[f]?=some fn) (hb:fn.body=some c) (hrs:fn.results.toList=rs) (hn:(fn.name== "runtime.NumGoroutine")=false) (hl:args.length<=fn.ntmps/\fn.ntmps<=1000000)
  (h:WpA P fn.ntmps c (frOf 0 args) [] (retA P rs r)):Fn P f args r:=by
 subst hrs
 refine ⟨⟨fn,hf,by rw [hb];rfl,hn⟩,fun w Mx vs hMx hvl hv=>calls_of_wp hf hb ?_⟩
 have hsim:Sim w.heap.size ⟨w,fun _=>undef⟩ Mx fn.ntmps w ρ0 (frOf 0 args) [] {tmps:=vs.toArray++Array.replicate (fn.ntmps-vs.toArray.size) undef,defers:=[]}:=by
  refine ⟨Below.refl _ _,Nat.le_refl _,hMx.2,(fun id o h=>by cases h),(fun id o h=>by cases h),(fun id o _ _ h=>by cases h),fun t=>?_,⟨rfl,fun _ hb=>hMx.1.later hb⟩,by simp;omega,hl.2⟩
  have hgv:gv ⟨w,fun _=>undef⟩ {tmps:=vs.toArray++Array.replicate (fn.ntmps-vs.toArray.size) undef,defers:=[]} t=(vs.toArray++Array.replicate (fn.ntmps-vs.toArray.size) undef).getD t undef:=by
   unfold gv;split
   ·rfl
   ·rw [Array.getD_eq_getD_getElem?,Array.getElem?_eq_none (by simp;omega)];rfl
  rw [hgv]
  rw [ynr,if_pos (Nat.zero_le _),Nat.sub_zero]
  by_cases ht:t<args.length
  ·have hvt:t<vs.length:=by omega
   have e1:(vs.toArray++Array.replicate (fn.ntmps-vs.toArray.size) undef).getD t undef=vs[t]:=by
    rw [Array.getD_eq_getD_getElem?,Array.getElem?_append_left (by simpa using hvt)];simp [hvt]
   rw [e1]
   have:=hv t vs[t] args[t] (List.getElem?_eq_getElem hvt) (List.getElem?_eq_getElem ht)
   have e2:args.getD t .any=args[t]:=by simp [ht]
   rw [e2]
   exact VR.D0 (this.carry (M':=MM Mx [] ρ0) (ρ':=ρ0) (Nat.le_refl _) (fun b _ hm=>⟨rfl,fun hh=>by
    rcases hh with hh|⟨id,o,hh,_⟩
    ·exact hm hh
    ·cases hh⟩) (D':=fun _=>False) (fun _ h=>h.elim))
  ·have e2:args.getD t .any= .any:=by simp [List.getElem?_eq_none (Nat.le_of_not_lt ht)]
   rw [e2];exact .any _
 refine wp_mono (h _ ⟨w,fun _=>undef⟩ Mx w ρ0 _ hsim) ?_
 rintro e a' w' ⟨ρ',fr',H',⟨he,hr⟩,hs⟩
 split at hr
 ·rename_i p l hres
  obtain ⟨hp,hsp,hsn⟩:=hr
  obtain ⟨v,hrun,hvr⟩:=yli (P:=P) hs hres hp
  have hfin:=yi5 hs (My:=Mx) (ρ0:=ρ0) (fun _ h=>h) 6 v (yeq l) hvr hsp
  rw [hsn] at hfin
  have hpost:bodyPost P fn (fun e w'=> ∃v,e= .returned v/\Below w.heap.size w w'/\VR w' Mx ρ0 (fun _=>False) v r) .ret a' w':=⟨hs.defers.1,v,hrun,v,rfl,hs.below,hfin⟩
  rcases he with rfl|rfl
  ·exact hpost
  ·exact hpost
 ·exact hr.elim
def retO (P:Program) (rs:List ResultVar) (r:AV) (H0:Hp) (e:Exit) (fr:Fr) (H:Hp):Prop:=
 (e= .ret\/e= .normal)/\match resL P fr H rs with
 |some (p,l)=>p/\yeq l=r/\s3 H0 r=true/\subH H H0 H0
 |none=>False
theorem FnO.intro {f:Nat} {fn:Func} {c:Code} {args:List AV} {r:AV} {H0:Hp} (rs:List ResultVar) (hf:P.funcs[f]?=some fn) (hb:fn.body=some c) (hrs:fn.results.toList=rs) (hn:(fn.name== "runtime.NumGoroutine")=false) (hl:args.length<=fn.ntmps/\fn.ntmps<=1000000)
  (h:WpA P fn.ntmps c (frOf 0 args) [] (retO P rs r H0)):FnO P f args r H0:=by
 subst hrs
 refine ⟨⟨fn,hf,by rw [hb];rfl,hn⟩,fun w Mx vs hMx hvl hv=>?_⟩
 have hsim0:Sim w.heap.size ⟨w,fun _=>undef⟩ Mx 0 w ρ0 [] [] {tmps:= #[],defers:=[]}:=
  ⟨Below.refl _ _,Nat.le_refl _,hMx.2,(fun id o h=>by cases h),(fun id o h=>by cases h),(fun id o _ _ h=>by cases h),fun t=> .any _,⟨rfl,fun _ hb=>hMx.1.later hb⟩,by simp,by omega⟩
 have hMe:MM Mx [] ρ0=Mx:=by
  funext x
  apply propext
  constructor
  ·rintro (g|⟨id,o,g,_⟩)
   ·exact g
   ·cases g
  ·exact Or.inl
 have hci:yba P f args [] [] (fun r' _ H'=>r'=r/\s3 H0 r=true/\subH H' H0 H0):=by
  refine ⟨.inl ⟨fn,c,hf,hb,hn,hl,?_⟩⟩
  rw [show frOf 0 args++lft []=frOf 0 args by simp [lft]]
  refine h.mono fun e fr H hq=>⟨hq.1,?_⟩
  have hq2:=hq.2
  split at hq2
  ·exact ⟨hq2.1,hq2.2.1,hq2.2.2.1,hq2.2.2.2⟩
  ·exact hq2.elim
 obtain ⟨_,hcalls⟩:=yer (P:=P) hsim0 hci hvl (fun i v x g1 g2=>by rw [hMe];exact (hv i v x g1 g2).D0)
 refine hcalls.mono ?_
 rintro e w' ⟨v,r',ρ',fr',H',rfl,⟨rfl,h3,hsub⟩,hs,hvr⟩
 have hs2:=hs.subW (fr':=[]) (H':=H0) trivial hsub
 refine ⟨v,ρ',rfl,hs2,?_⟩
 refine VR.sc3 (D:=DD H') (hvr.carry (Nat.le_refl _) (fun b _ hm=>⟨rfl,fun g=>hm ?_⟩) (fun k hd=>⟨hd,rfl,fun arr t ha=>⟨arr,ha,rfl⟩⟩)) h3
 rcases g with g|⟨id,o,g1,g2,g3⟩
 ·exact .inl g
 ·exact .inr ⟨id,o,(yeg hsub id o g1).1,g2,g3⟩
end
end Go.Proofs.YtfgbnalnbdhimaaGreatDoor
namespace Go.Proofs.YtfgbnalnbdhimaaGreatDoor
open Go Go.RowKit
section
variable (H:Hp) (n:Nat)
def snS (n:Nat) (es off len:Nat):Option AObj->AV
 |some (.cells _ (.lst l))=> .ro es len ((Cs.lst (l.map (snap H n))).win off (len*es))
 |some (.cells _ c)=> .ro es len (c.win off (len*es))
 |_=> .any
def snP (n:Nat) (off:Nat):Option AObj->AV
 |some (.cells _ (.lst l))=> .rp (.lst (l.map (snap H n))) off
 |some (.cells _ c)=> .rp c off
 |_=> .any
def sqS (n:Nat) (es off len:Nat):Option AObj->Prop
 |some (.cells _ (.lst l))=>0<es/\off+len*es<=l.length/\ ∀x∈l,yan H n x
 |some (.cells _ c)=>0<es/\off+len*es<=c.len
 |_=>True
def sqP (n:Nat):Option AObj->Prop
 |some (.cells _ (.lst l))=> ∀x∈l,yan H n x
 |_=>True
theorem snS1 (es off len t:Nat) (l:List Int):snS H n es off len (some (.cells t (.ints l)))= .ro es len (.ints ((l.drop off).take (len*es))):=rfl
theorem snS2 (es off len t:Nat) (l:List Bool):snS H n es off len (some (.cells t (.bools l)))= .ro es len (.bools ((l.drop off).take (len*es))):=rfl
theorem snS3 (es off len t:Nat) (l:List AV):snS H n es off len (some (.cells t (.lst l)))= .ro es len (.lst (((l.map (snap H n)).drop off).take (len*es))):=rfl
theorem snP1 (off t:Nat) (l:List Int):snP H n off (some (.cells t (.ints l)))= .rp (.ints l) off:=rfl
theorem snP2 (off t:Nat) (l:List Bool):snP H n off (some (.cells t (.bools l)))= .rp (.bools l) off:=rfl
theorem snP3 (off t:Nat) (l:List AV):snP H n off (some (.cells t (.lst l)))= .rp (.lst (l.map (snap H n))) off:=rfl
theorem sqS1 (es off len t:Nat) (l:List Int):sqS H n es off len (some (.cells t (.ints l)))=(0<es/\off+len*es<=l.length):=rfl
theorem sqS2 (es off len t:Nat) (l:List Bool):sqS H n es off len (some (.cells t (.bools l)))=(0<es/\off+len*es<=l.length):=rfl
theorem sqS3 (es off len t:Nat) (l:List AV):sqS H n es off len (some (.cells t (.lst l)))=(0<es/\off+len*es<=l.length/\ ∀x∈l,yan H n x):=rfl
theorem sqP1 (t:Nat) (l:List Int):sqP H n (some (.cells t (.ints l)))=True:=rfl
theorem sqP2 (t:Nat) (l:List Bool):sqP H n (some (.cells t (.bools l)))=True:=rfl
theorem sqP3 (t:Nat) (l:List AV):sqP H n (some (.cells t (.lst l)))= ∀x∈l,yan H n x:=rfl
theorem yy5:snap H (n+1) .any= .any:=rfl
theorem yy6 (k:IntKind) (m:Int):snap H (n+1) (.int k m)= .int k m:=rfl
theorem yvs (b:Bool):snap H (n+1) (.bool b)= .bool b:=rfl
theorem yy7 (b:ByteArray):snap H (n+1) (.str b)= .str b:=rfl
theorem yvt:snap H (n+1) .nils= .nils:=rfl
theorem y13 (es len:Nat) (c:Cs):snap H (n+1) (.ro es len c)= .ro es len c:=rfl
theorem y14 (c:Cs) (off:Nat):snap H (n+1) (.rp c off)= .rp c off:=rfl
theorem yy8 (xs:List AV):snap H (n+1) (.agg xs)= .agg (xs.map (snap H n)):=rfl
theorem yy9 (xs:List AV):snap H (n+1) (.tup xs)= .tup (xs.map (snap H n)):=rfl
theorem y15 (f:Nat) (xs:List AV):snap H (n+1) (.fn f xs)= .fn f (xs.map (snap H n)):=rfl
theorem y16 (es id off len:Nat):snap H (n+1) (.sl es id off len)=snS H n es off len (hget H id):=by
 simp only [snap,snS];split<;>simp_all
theorem yza (id off:Nat):snap H (n+1) (.ptr id off)=snP H n off (hget H id):=by
 simp only [snap,snP];split<;>simp_all
theorem yvu:yan H (n+1) .any=True:=rfl
theorem yvv (k:IntKind) (m:Int):yan H (n+1) (.int k m)=True:=rfl
theorem yud (b:Bool):yan H (n+1) (.bool b)=True:=rfl
theorem yvw (b:ByteArray):yan H (n+1) (.str b)=True:=rfl
theorem yue:yan H (n+1) .nils=True:=rfl
theorem yzb (es len:Nat) (c:Cs):yan H (n+1) (.ro es len c)=True:=rfl
theorem yzc (c:Cs) (off:Nat):yan H (n+1) (.rp c off)=True:=rfl
theorem yvx (xs:List AV):yan H (n+1) (.agg xs)= ∀x∈xs,yan H n x:=rfl
theorem yvy (xs:List AV):yan H (n+1) (.tup xs)= ∀x∈xs,yan H n x:=rfl
theorem yzd (f:Nat) (xs:List AV):yan H (n+1) (.fn f xs)= ∀x∈xs,yan H n x:=rfl
theorem yze (es id off len:Nat):yan H (n+1) (.sl es id off len)=sqS H n es off len (hget H id):=by
 simp only [yan,sqS];split<;>simp_all
theorem yvz (id off:Nat):yan H (n+1) (.ptr id off)=sqP H n (hget H id):=by
 simp only [yan,sqP];split<;>simp_all
end
attribute [go_sem] snS1 snS2 snS3 snP1 snP2 snP3 sqS1 sqS2 sqS3 sqP1 sqP2 sqP3 yy5 yy6 yvs yy7 yvt y13 y14 yy8 yy9 y15 y16 yza yvu yvv yud yvw yue yzb yzc yvx yvy yzd yze yvz
section
variable (HF:Hp) (n b:Nat)
def fzS (HF:Hp) (es id off len:Nat):Option AObj->AV
 |some _=>snap HF 6 (.sl es id off len)
 |none=> .sl es id off len
def fzP (HF:Hp) (id off:Nat):Option AObj->AV
 |some _=>snap HF 6 (.ptr id off)
 |none=> .ptr id off
def fqS (HF:Hp) (es id off len:Nat):Option AObj->Prop
 |some _=>yan HF 6 (.sl es id off len)
 |none=>True
def fqP (HF:Hp) (id off:Nat):Option AObj->Prop
 |some _=>yan HF 6 (.ptr id off)
 |none=>True
def fzO (HF:Hp) (o:AObj):Option AObj->AObj
 |some _=> .gone
 |none=>frzO HF o
def hsE (H:Hp) (i:Nat) (r:List Nat):Option AObj->Hp
 |some o=>(i,o)::hsel H r
 |none=>hsel H r
theorem fzS1 (es id off len:Nat) (o:AObj):fzS HF es id off len (some o)=snap HF 6 (.sl es id off len):=rfl
theorem fzS2 (es id off len:Nat):fzS HF es id off len none= .sl es id off len:=rfl
theorem fzP1 (id off:Nat) (o:AObj):fzP HF id off (some o)=snap HF 6 (.ptr id off):=rfl
theorem fzP2 (id off:Nat):fzP HF id off none= .ptr id off:=rfl
theorem fqS1 (es id off len:Nat) (o:AObj):fqS HF es id off len (some o)=yan HF 6 (.sl es id off len):=rfl
theorem fqS2 (es id off len:Nat):fqS HF es id off len none=True:=rfl
theorem fqP1 (id off:Nat) (o:AObj):fqP HF id off (some o)=yan HF 6 (.ptr id off):=rfl
theorem fqP2 (id off:Nat):fqP HF id off none=True:=rfl
theorem fzO1 (o q:AObj):fzO HF o (some q)= .gone:=rfl
theorem fzO2 (o:AObj):fzO HF o none=frzO HF o:=rfl
theorem hsE1 (i:Nat) (r:List Nat) (o:AObj):hsE HF i r (some o)=(i,o)::hsel HF r:=rfl
theorem hsE2 (i:Nat) (r:List Nat):hsE HF i r none=hsel HF r:=rfl
theorem y60:hsel HF []=[]:=rfl
theorem y61 (i:Nat) (r:List Nat):hsel HF (i::r)=hsE HF i r (hget HF i):=by simp only [hsel];split<;>simp_all [hsE]
theorem yzf:frzV HF (n+1) .any= .any:=rfl
theorem yzg (k:IntKind) (m:Int):frzV HF (n+1) (.int k m)= .int k m:=rfl
theorem yv0 (b:Bool):frzV HF (n+1) (.bool b)= .bool b:=rfl
theorem yzh (b:ByteArray):frzV HF (n+1) (.str b)= .str b:=rfl
theorem yv1:frzV HF (n+1) .nils= .nils:=rfl
theorem y17 (es len:Nat) (c:Cs):frzV HF (n+1) (.ro es len c)= .ro es len c:=rfl
theorem y18 (c:Cs) (off:Nat):frzV HF (n+1) (.rp c off)= .rp c off:=rfl
theorem y19 (id:Nat):frzV HF (n+1) (.mp id)= .mp id:=rfl
theorem yzi (xs:List AV):frzV HF (n+1) (.agg xs)= .agg (xs.map (frzV HF n)):=rfl
theorem yzj (xs:List AV):frzV HF (n+1) (.tup xs)= .tup (xs.map (frzV HF n)):=rfl
theorem y2a (f:Nat) (xs:List AV):frzV HF (n+1) (.fn f xs)= .fn f (xs.map (frzV HF n)):=rfl
theorem y2b (es id off len:Nat):frzV HF (n+1) (.sl es id off len)=fzS HF es id off len (hget HF id):=by simp only [frzV];split<;>simp_all [fzS]
theorem yzk (id off:Nat):frzV HF (n+1) (.ptr id off)=fzP HF id off (hget HF id):=by simp only [frzV];split<;>simp_all [fzP]
theorem yzl:frzP HF (n+1) .any=True:=rfl
theorem yzm (k:IntKind) (m:Int):frzP HF (n+1) (.int k m)=True:=rfl
theorem yv2 (b:Bool):frzP HF (n+1) (.bool b)=True:=rfl
theorem yzn (b:ByteArray):frzP HF (n+1) (.str b)=True:=rfl
theorem yv3:frzP HF (n+1) .nils=True:=rfl
theorem y2c (es len:Nat) (c:Cs):frzP HF (n+1) (.ro es len c)=True:=rfl
theorem y2d (c:Cs) (off:Nat):frzP HF (n+1) (.rp c off)=True:=rfl
theorem y2e (id:Nat):frzP HF (n+1) (.mp id)=True:=rfl
theorem yzo (xs:List AV):frzP HF (n+1) (.agg xs)= ∀x∈xs,frzP HF n x:=rfl
theorem yzp (xs:List AV):frzP HF (n+1) (.tup xs)= ∀x∈xs,frzP HF n x:=rfl
theorem y2f (f:Nat) (xs:List AV):frzP HF (n+1) (.fn f xs)= ∀x∈xs,frzP HF n x:=rfl
theorem y2g (es id off len:Nat):frzP HF (n+1) (.sl es id off len)=fqS HF es id off len (hget HF id):=by simp only [frzP];split<;>simp_all [fqS]
theorem yzq (id off:Nat):frzP HF (n+1) (.ptr id off)=fqP HF id off (hget HF id):=by simp only [frzP];split<;>simp_all [fqP]
theorem y62:frzH HF []=[]:=rfl
theorem y63 (i:Nat) (o:AObj) (r:Hp):frzH HF ((i,o)::r)=(i,fzO HF o (hget HF i))::frzH HF r:=by simp only [frzH];split<;>simp_all [fzO]
theorem y49 (t:Nat) (l:List Int):frzO HF (.cells t (.ints l))= .cells t (.ints l):=rfl
theorem y5a (t:Nat) (l:List Bool):frzO HF (.cells t (.bools l))= .cells t (.bools l):=rfl
theorem y5b (t:Nat) (l:List AV):frzO HF (.cells t (.lst l))= .cells t (.lst (l.map (frzV HF 4))):=rfl
theorem y5c:frzO HF .gone= .gone:=rfl
theorem y5d (t:Nat) (l:List (Int×AV)):frzO HF (.imap t l)= .imap t l:=rfl
theorem y5e (t ck:Nat) (l:List (ByteArray×Nat×AV)):frzO HF (.gmap t ck l)= .gmap t ck (l.map fun q=>(q.1,q.2.1,frzV HF 4 q.2.2)):=rfl
theorem y5f (m s la:Nat) (sn:List Nat):frzO HF (.iter m s sn la)= .iter m s sn la:=rfl
theorem y2h (t ck:Nat) (l:List (ByteArray×Nat×AV)):yep HF (.gmap t ck l)= ∀q∈l,frzP HF 4 q.2.2:=rfl
theorem y2i (m s la:Nat) (sn:List Nat):yep HF (.iter m s sn la)=True:=rfl
theorem y5g (t:Nat) (c:MF):frzO HF (.fmap t c)= .fmap t c:=rfl
theorem y2j (t:Nat) (c:MF):yep HF (.fmap t c)=True:=rfl
theorem y2k (t:Nat) (l:List Int):yep HF (.cells t (.ints l))=True:=rfl
theorem y2l (t:Nat) (l:List Bool):yep HF (.cells t (.bools l))=True:=rfl
theorem y2m (t:Nat) (l:List AV):yep HF (.cells t (.lst l))= ∀x∈l,frzP HF 4 x:=rfl
theorem y2n:yep HF .gone=True:=rfl
theorem y2o (t:Nat) (l:List (Int×AV)):yep HF (.imap t l)=True:=rfl
theorem yzr:renV b (n+1) .any= .any:=rfl
theorem yzs (k:IntKind) (m:Int):renV b (n+1) (.int k m)= .int k m:=rfl
theorem yv4 (x:Bool):renV b (n+1) (.bool x)= .bool x:=rfl
theorem yzt (x:ByteArray):renV b (n+1) (.str x)= .str x:=rfl
theorem yv5:renV b (n+1) .nils= .nils:=rfl
theorem y2p (es len:Nat) (c:Cs):renV b (n+1) (.ro es len c)= .ro es len c:=rfl
theorem y2q (c:Cs) (off:Nat):renV b (n+1) (.rp c off)= .rp c off:=rfl
theorem y2r (id:Nat):renV b (n+1) (.mp id)= .mp (b+id):=rfl
theorem yzu (xs:List AV):renV b (n+1) (.agg xs)= .agg (xs.map (renV b n)):=rfl
theorem yzv (xs:List AV):renV b (n+1) (.tup xs)= .tup (xs.map (renV b n)):=rfl
theorem y2s (f:Nat) (xs:List AV):renV b (n+1) (.fn f xs)= .fn f (xs.map (renV b n)):=rfl
theorem y2t (es id off len:Nat):renV b (n+1) (.sl es id off len)= .sl es (b+id) off len:=rfl
theorem yzw (id off:Nat):renV b (n+1) (.ptr id off)= .ptr (b+id) off:=rfl
theorem y5h (t:Nat) (l:List Int):renO b (.cells t (.ints l))= .cells t (.ints l):=rfl
theorem y5i (t:Nat) (l:List Bool):renO b (.cells t (.bools l))= .cells t (.bools l):=rfl
theorem y5j (t:Nat) (l:List AV):renO b (.cells t (.lst l))= .cells t (.lst (l.map (renV b 4))):=rfl
theorem y5k:renO b .gone= .gone:=rfl
end
attribute [go_sem] fzS1 fzS2 fzP1 fzP2 fqS1 fqS2 fqP1 fqP2 fzO1 fzO2 hsE1 hsE2 y60 y61 yzf yzg yv0 yzh yv1 y17 y18 y19 yzi yzj y2a y2b yzk yzl yzm yv2 yzn yv3 y2c y2d y2e yzo yzp y2f y2g yzq
attribute [go_sem] y5e y5f y2h y2i y5g y2j y62 y63 y49 y5a y5b y5c y5d y2k y2l y2m y2n y2o yzr yzs yv4 yzt yv5 y2p y2q y2r yzu yzv y2s y2t yzw y5h y5i y5j y5k frzF yi6 yi7 renH lft unl gput retI y44 y45 y46 y47 retO
section
variable (l m:List Int) (b d:List Bool) (x y:List AV) (i n:Nat)
theorem cl1:(Cs.ints l).len=l.length:=rfl
theorem cl2:(Cs.bools b).len=b.length:=rfl
theorem cl3:(Cs.lst x).len=x.length:=rfl
theorem cg1:(Cs.ints l).get i= .int .i64 (l.getD i 0):=rfl
theorem cg2:(Cs.bools b).get i= .bool (b.getD i false):=rfl
theorem cg3:(Cs.lst x).get i=x.getD i .any:=rfl
theorem cs1 (v:Int):(Cs.ints l).set i (.int .i64 v)= .ints (l.set i v):=rfl
theorem cs2 (v:Bool):(Cs.bools b).set i (.bool v)= .bools (b.set i v):=rfl
theorem cs3 (v:AV):(Cs.lst x).set i v= .lst (x.set i v):=by cases v<;>rfl
theorem ct1:(Cs.ints l).toL=l.map (AV.int .i64):=rfl
theorem ct2:(Cs.bools b).toL=b.map AV.bool:=rfl
theorem ct3:(Cs.lst x).toL=x:=rfl
theorem cd1:(Cs.ints l).drop n= .ints (l.drop n):=rfl
theorem cd2:(Cs.bools b).drop n= .bools (b.drop n):=rfl
theorem cd3:(Cs.lst x).drop n= .lst (x.drop n):=rfl
theorem ck1:(Cs.ints l).take n= .ints (l.take n):=rfl
theorem ck2:(Cs.bools b).take n= .bools (b.take n):=rfl
theorem ck3:(Cs.lst x).take n= .lst (x.take n):=rfl
theorem cw1:(Cs.ints l).win i n= .ints ((l.drop i).take n):=rfl
theorem cw2:(Cs.bools b).win i n= .bools ((b.drop i).take n):=rfl
theorem cw3:(Cs.lst x).win i n= .lst ((x.drop i).take n):=rfl
theorem ca1:(Cs.ints l).app (.ints m)= .ints (l++m):=rfl
theorem ca2:(Cs.bools b).app (.bools d)= .bools (b++d):=rfl
theorem ca3:(Cs.lst x).app (.lst y)= .lst (x++y):=rfl
theorem co1 (c:Cs):appO c none=c:=rfl
theorem co2 (c c':Cs):appO c (some c')=c.app c':=rfl
theorem cn1:lenO none=0:=rfl
theorem cn2 (c:Cs):lenO (some c)=c.len:=rfl
theorem cc1:cutC n (.ints l)= .ints l:=rfl
theorem cc2:cutC n (.bools b)= .bools b:=rfl
theorem cc3:cutC n (.lst x)= .lst (x.map (cutV n)):=rfl
end
attribute [go_sem] cl1 cl2 cl3 cg1 cg2 cg3 cs1 cs2 cs3 ct1 ct2 ct3 cd1 cd2 cd3 ck1 ck2 ck3 cw1 cw2 cw3 ca1 ca2 ca3 co1 co2 cn1 cn2 cc1 cc2 cc3
attribute [go_sem] yt2 okM yi4 yfo yeu yon ytz ytv ytu ytw yt0 yt1 zrG yox yk8 idxF idxP entF entI entG gkA yhe ytx yty muP muG mkJ capF muF muK muM mkM mkE updI updB updP quF opF alF stF apF srcF yk5 yk4 binF binI unF yff yk7 yk6 yed lenF yhd nilF yom yle yck ylb yew yew.isAgg' setL yaw ycd isAg cvOk gval evA absV fget fput dok hget hset hnew yfa yef
attribute [go_sem] mkC zC isI toI isBo toBo ydw apF.n2D yia cutV cutO hcut fcut n1 n2 n3 frOf p1 p2 p3 retA resL yeq flat ylf I InI s1 s2 s3 sO subF subH Option.isSome_some
attribute [go_sem] List.getElem?_cons_zero List.getElem?_cons_succ Option.bind_some Option.map_some Option.map_none Option.bind_none List.map_cons List.map_nil List.all_cons List.all_nil List.length_cons List.length_nil Bool.and_true Bool.and_self Bool.true_and Bool.or_true Bool.true_or Bool.or_false Bool.false_or Bool.and_false Bool.false_and
attribute [go_sem] Bool.false_eq_true Bool.true_eq_false Bool.not_true Bool.not_false List.nil_append List.cons_append List.append_nil decide_true decide_false if_true if_false true_and and_true and_self forall_const true_implies false_implies implies_true ne_eq not_true_eq_false not_false_eq_true and_false false_and true_or or_true or_false false_or
attribute [go_sem] Nat.zero_add Nat.add_zero Nat.mul_one Nat.one_mul Option.some.injEq AV.bool.injEq List.size_toArray List.flatMap_cons List.flatMap_nil List.getD_cons_zero List.getD_cons_succ List.mem_cons List.not_mem_nil forall_eq forall_eq_or_imp List.set_cons_zero List.set_cons_succ List.drop_zero List.drop_succ_cons List.take_zero List.take_succ_cons List.getElem?_toArray List.drop_nil List.take_nil
attribute [go_sem] List.range_zero bne_eq_false_iff_eq decide_eq_true_eq decide_eq_false_iff_not beq_iff_eq beq_eq_false_iff_ne bne_iff_ne Int.not_lt Int.not_le Bool.not_eq_true' Bool.not_eq_false' Bool.not_eq_true Bool.not_eq_false Nat.zero_mul Nat.mul_zero Int.toNat_zero Int.toNat_natCast List.all_map List.map_map Nat.max_def eq_self Int.sub_zero Int.zero_add Int.add_zero List.length_replicate List.length_set List.length_map Bool.and_eq_true Bool.or_eq_true Bool.decide_eq_true
def mO {α:Type} (x:Option (Prop×α)) (A:Prop->α->Prop) (B:Prop):Prop:=match x with
 |some (p,r)=>A p r
 |none=>B
def mB (x:AV) (A:Bool->Prop):Prop:=match x with
 | .bool b=>A b
 |_=>False
def mG (x:AV) (A:Bool->Prop) (B:Unit->Prop):Prop:=match x with
 | .bool c=>A c
 | .tup []=>B ()
 |_=>False
theorem yzx {x x':AV} {A:Bool->Prop} {B:Unit->Prop} (h:x=x'):mG x A B=mG x' A B:=by rw [h]
theorem y2u {c:Bool} {A:Bool->Prop} {B:Unit->Prop}:mG (.bool c) A B=A c:=rfl
theorem y5l {A:Bool->Prop} {B:Unit->Prop}:mG (.tup []) A B=B ():=rfl
def mF (x:AV) (A:Nat->List AV->Prop):Prop:=match x with
 | .fn g cap=>A g cap
 |_=>False
theorem yzy {α:Type} {x x':Option (Prop×α)} {A:Prop->α->Prop} {B:Prop} (h:x=x'):mO x A B=mO x' A B:=by rw [h]
theorem yzz {x x':AV} {A:Bool->Prop} (h:x=x'):mB x A=mB x' A:=by rw [h]
theorem yz0 {x x':AV} {A:Nat->List AV->Prop} (h:x=x'):mF x A=mF x' A:=by rw [h]
theorem y2v {α:Type} {p:Prop} {r:α} {A:Prop->α->Prop} {B:Prop}:mO (some (p,r)) A B=A p r:=rfl
theorem y2w {α:Type} {A:Prop->α->Prop} {B:Prop}:mO none A B=B:=rfl
theorem y2x {b:Bool} {A:Bool->Prop}:mB (.bool b) A=A b:=rfl
theorem y64 {g:Nat} {cap:List AV} {A:Nat->List AV->Prop}:mF (.fn g cap) A=A g cap:=rfl
section
variable (P:Program) (N:Nat) (ops:Array Oper) (fr:Fr) (H:Hp) (Q:Exit->Fr->Hp->Prop) (K:Fr->Hp->Prop)
def ylj (o:Oper):Option (Prop×Fr×Hp):=match o.op with
 | .store t x y=>(stF P H t (evA fr x) (evA fr y)).map fun q=>(q.1,fput fr o.dst .any,hset H q.2.1 q.2.2)
 | .mapUpdate t m k x=>(muF P H t (evA fr m) (evA fr k) (evA fr x)).map fun q=>(True,fput fr o.dst .any,hset H q.1 q.2)
 | .call c=>match c.callee with
   | .builtin .append=>match c.args.toList,c.argTypes.toList with
     |[s,x],[t,t']=>(apF P fr H t (evA fr s) (evA fr x)).map fun q=>(t=t'/\q.1,fput q.2.2.1 o.dst q.2.1,q.2.2.2)
     |_,_=>none
   |_=>none
 |_=>none
def sO1 (o:Oper) (z:Option (Prop×Fr×Hp)):Option (Prop×AV)->Option (Prop×Fr×Hp)
 |some (p,r)=>some (p,fput fr o.dst r,H)
 |none=>z
def sO2 (o:Oper) (z:Option (Prop×Fr×Hp)):Option (Prop×AV×AObj)->Option (Prop×Fr×Hp)
 |some (p,r,ob)=>some (p,fput fr o.dst r,(hnew H,ob)::H)
 |none=>z
def yhm (o:Oper):Option (Prop×Fr×Hp):=if cvOk P o.op=true/\dok o.dst N=true then
    sO1 fr H o (sO2 fr H o (ylj P fr H o) (alF P (hnew H) (evA fr) o.op)) (quF P H (evA fr) o.op) else none
def isCV:Op->Bool
 | .call c=>match c.callee with
   | .value _=>true
   |_=>false
 |_=>false
structure AwS (P:Program) (N:Nat) (fr:Fr) (H:Hp) (K:Fr->Hp->Prop) (o:Oper):Prop where
 out:awO P N o fr H K
theorem yz1 (o:Oper) (hc:isCV o.op=false):awO P N o fr H K=mO (yhm P N fr H o) (fun p q=>p/\K q.1 q.2) (AwS P N fr H K o):=by
 have hS:AwS P N fr H K o=awO P N o fr H K:=propext ⟨fun h=>h.out,fun h=>⟨h⟩⟩
 have hX:(dok o.dst N=true)->awX P N o fr H K=mO (ylj P fr H o) (fun p q=>p/\K q.1 q.2) (awX P N o fr H K):=by
  intro hd
  unfold awX ylj
  revert hc
  generalize o.op=op
  intro hc
  cases op<;>try rfl
  case store t x y=>
   simp only
   rcases stF P H t (evA fr x) (evA fr y) with _|⟨p,i,ob⟩
   ·rfl
   ·simp [mO,hd]
  case mapUpdate t m k x=>
   simp only
   rcases muF P H t (evA fr m) (evA fr k) (evA fr x) with _|⟨i,ob⟩
   ·rfl
   ·simp [mO,hd]
  case call c=>
   obtain ⟨callee,args,ts⟩:=c
   cases callee<;>try rfl
   case builtin b=>
    cases b<;>try rfl
    generalize hl:args.toList=l1
    generalize hm:ts.toList=l2
    simp only [hl,hm]
    match l1,l2 with
    |[s,x],[t,t']=>
     simp only
     rcases apF P fr H t (evA fr s) (evA fr x) with _|⟨p,r,fr',H'⟩
     ·simp [mO]
     ·simp [mO,hd,and_assoc]
    |[],_=>rfl
    |[_],_=>rfl
    |_::_::_::_,_=>rfl
    |[_,_],[]=>rfl
    |[_,_],[_]=>rfl
    |[_,_],_::_::_::_=>rfl
 rw [hS]
 by_cases h1:cvOk P o.op=true/\dok o.dst N=true
 ·have hst:yhm P N fr H o=sO1 fr H o (sO2 fr H o (ylj P fr H o) (alF P (hnew H) (evA fr) o.op)) (quF P H (evA fr) o.op):=by unfold yhm;rw [if_pos h1]
  rw [hst]
  unfold awO
  rcases quF P H (evA fr) o.op with _|⟨p,r⟩
  ·rcases alF P (hnew H) (evA fr) o.op with _|⟨p,r,ob⟩
   ·simp only [sO1,sO2,h1.1,true_and];exact hX h1.2
   ·simp [sO1,sO2,mO,h1.1,h1.2]
  ·simp [sO1,mO,h1.1,h1.2]
 ·have hst:yhm P N fr H o=none:=by unfold yhm;rw [if_neg h1]
  rw [hst];rfl
structure y1o (P:Program) (N:Nat) (ops:Array Oper) (d:Option Nat) (r:List Oper) (fr:Fr) (H:Hp) (K:Fr->Hp->Prop) (g:Nat) (xs:List AV):Prop where
 out:yae P g xs fr H fun x fr' H'=>awL P N ops r (fput fr' d x) H' K
structure SpL (P:Program) (N:Nat) (ops:Array Oper) (fr:Fr) (H:Hp) (K:Fr->Hp->Prop) (o:Oper) (r:List Oper):Prop where
 out:awO P N o fr H fun fr' H'=>awL P N ops r fr' H' K
def awLn (o:Oper) (r:List Oper):Prop:=match o.op with
 | .call {callee:= .value f,args:=args, .. }=>mF (evA fr f) fun g cap=>dok o.dst N=true/\y1o P N ops o.dst r fr H K g (args.toList.map (evA fr)++cap)
 |_=>mO (yhm P N fr H o) (fun p q=>p/\awL P N ops r q.1 q.2 K) (SpL P N ops fr H K o r)
theorem yrz (o:Oper) (r:List Oper):(awO P N o fr H fun fr' H'=>awL P N ops r fr' H' K)=awLn P N ops fr H K o r:=by
 by_cases hc:isCV o.op=false
 ·rw [yz1 _ _ _ _ _ _ hc]
  have hS:AwS P N fr H (fun fr' H'=>awL P N ops r fr' H' K) o=SpL P N ops fr H K o r:=propext ⟨fun h=>⟨h.out⟩,fun h=>⟨h.out⟩⟩
  rw [hS]
  unfold awLn
  revert hc
  generalize hop:o.op=op
  intro hc
  cases op<;>try rfl
  case call c=>
   obtain ⟨callee,args,ts⟩:=c
   cases callee<;>first|rfl|(simp [isCV] at hc)
 ·unfold awLn
  cases hop:o.op with
  |call c=>
   obtain ⟨callee,args,ts⟩:=c
   cases callee with
   |value f=>
    unfold awO awX
    simp only [hop,cvOk,true_and,quF,opF,alF]
    unfold mF
    cases evA fr f<;>first|rfl|(simp only [eq_iff_iff];exact ⟨fun h=>⟨h.1,⟨h.2⟩⟩,fun h=>⟨h.1,h.2.out⟩⟩)
   |_=>rw [hop] at hc;simp [isCV] at hc
  |_=>rw [hop] at hc;simp [isCV] at hc
def gspL (c b:Bool) (o:Oper) (r:List Oper) (j:Nat):Prop:=(c=b->awLn P N ops (gput ops fr j b) H K o r)/\(c= !b->dok o.dst N=true/\awL P N ops r (fput (gput ops fr j (!b)) o.dst (.tup [])) H K)
theorem y2y (o:Oper) (r:List Oper) (j:Nat):gspL P N ops fr H K true true o r j=awLn P N ops (gput ops fr j true) H K o r:=by simp [gspL]
theorem y2z (o:Oper) (r:List Oper) (j:Nat):gspL P N ops fr H K false false o r j=awLn P N ops (gput ops fr j false) H K o r:=by simp [gspL]
theorem y20 (o:Oper) (r:List Oper) (j:Nat):gspL P N ops fr H K true false o r j=(dok o.dst N=true/\awL P N ops r (fput (gput ops fr j true) o.dst (.tup [])) H K):=by simp [gspL]
theorem y21 (o:Oper) (r:List Oper) (j:Nat):gspL P N ops fr H K false true o r j=(dok o.dst N=true/\awL P N ops r (fput (gput ops fr j false) o.dst (.tup [])) H K):=by simp [gspL]
def lG (b:Bool) (o:Oper) (r:List Oper) (j:Nat) (c:Bool):Prop:=gspL P N ops fr H K c b o r j
def lZ (o:Oper) (r:List Oper) (_:Unit):Prop:=dok o.dst N=true/\awL P N ops r (fput fr o.dst (.tup [])) H K
theorem y65 (b:Bool) (o:Oper) (r:List Oper) (j:Nat) (c:Bool):lG P N ops fr H K b o r j c=gspL P N ops fr H K c b o r j:=rfl
theorem y66 (o:Oper) (r:List Oper) (u:Unit):lZ P N ops fr H K o r u=(dok o.dst N=true/\awL P N ops r (fput fr o.dst (.tup [])) H K):=rfl
def awLg (o:Oper) (r:List Oper):Prop:=match o.guard with
 |none=>awLn P N ops fr H K o r
 |some (j,b)=>mG (gval ops fr j) (lG P N ops fr H K b o r j) (lZ P N ops fr H K o r)
theorem y22:awL P N ops [] fr H K=K fr H:=rfl
theorem yz2 (o:Oper) (r:List Oper):awL P N ops (o::r) fr H K=awLg P N ops fr H K o r:=by
 unfold awLg mG lG lZ gspL
 simp only [awL]
 rcases o.guard with _|⟨j,b⟩
 ·exact yrz P N ops fr H K o r
 ·simp only
  rcases gval ops fr j with _|_|_|_|_|(_|_)|_|_|_|_|_|_|_<;>first|rfl|(simp only [gsp,yrz])
def yi8 (b:Bool) (x y:Code):Prop:=(b=true->awC P N x fr H Q)/\(b=false->awC P N y fr H Q)
theorem y23 (x y:Code):yi8 P N fr H Q true x y=awC P N x fr H Q:=by simp [yi8]
theorem y24 (x y:Code):yi8 P N fr H Q false x y=awC P N y fr H Q:=by simp [yi8]
theorem yz3:awC P N .skip fr H Q=Q .normal fr H:=rfl
theorem yz4 (i:Nat):awC P N (.region i ops false) fr H Q=awR P N ops fr H (Q .normal):=rfl
theorem yz5 (i:Nat):awC P N (.region i ops true) fr H Q=ya2 P N i ops fr H Q:=rfl
theorem y25 (x y:Code):awC P N (.seq x y) fr H Q=awC P N x fr H (yfa Q fun fr' H'=>WpA P N y fr' H' Q):=rfl
theorem yz6 (c:Operand) (x y:Code):awC P N (.cond c x y) fr H Q=mB (evA fr c) fun b=>yi8 P N fr H Q b x y:=by
 unfold mB yi8;simp only [awC];cases evA fr c<;>first|rfl|(simp only [gsp,Bool.not_true])
theorem yv6 (i:Nat) (c:Code):awC P N (.block i c) fr H Q=awC P N c fr H (yef i Q):=rfl
theorem yz7 (c:Code):awC P N (.loop c) fr H Q=yai P N c fr H Q:=rfl
theorem yz8 (i:Nat):awC P N (.exit i) fr H Q=Q (.exit i) fr H:=rfl
theorem y26:awC P N .ret fr H Q=Q .ret fr H:=rfl
theorem yv7 (l):awC P N (.label l) fr H Q=Q .normal fr H:=rfl
end
attribute [congr] yzy yzz yz0
attribute [go_sem] y2u y5l y65 y66 y2v y2w y2x y64 ylj sO1 sO2 yhm isCV awLn y2y y2z y20 y21 y23 y24 awLg y22 yz2 yz3 yz4 yz5 y25 yz6 yv6 yz7 yz8 y26 yv7
section
variable {P:Program} {N:Nat} {fr fr':Fr} {H H':Hp}
theorem yv8 {o:Oper} {K:Fr->Hp->Prop} (h1:fr=fr') (h2:H=H'):awO P N o fr H K=awO P N o fr' H' K:=by rw [h1,h2]
theorem yv9 {o:Oper} {K:Fr->Hp->Prop} (h1:fr=fr') (h2:H=H'):awX P N o fr H K=awX P N o fr' H' K:=by rw [h1,h2]
theorem ywa {ops:Array Oper} {r:List Oper} {K:Fr->Hp->Prop} (h1:fr=fr') (h2:H=H'):awL P N ops r fr H K=awL P N ops r fr' H' K:=by rw [h1,h2]
theorem ywb {ops:Array Oper} {K:Fr->Hp->Prop} (h1:fr=fr') (h2:H=H'):awR P N ops fr H K=awR P N ops fr' H' K:=by rw [h1,h2]
theorem ywc {c:Code} {Q:Exit->Fr->Hp->Prop} (h1:fr=fr') (h2:H=H'):awC P N c fr H Q=awC P N c fr' H' Q:=by rw [h1,h2]
theorem ywd {c:Code} {Q:Exit->Fr->Hp->Prop} (h1:fr=fr') (h2:H=H'):WpA P N c fr H Q=WpA P N c fr' H' Q:=by rw [h1,h2]
theorem yri {c:Code} {Q:Exit->Fr->Hp->Prop} (h1:fr=fr') (h2:H=H'):yai P N c fr H Q=yai P N c fr' H' Q:=by rw [h1,h2]
theorem yrj {id:Nat} {ops:Array Oper} {Q:Exit->Fr->Hp->Prop} (h1:fr=fr') (h2:H=H'):ya2 P N id ops fr H Q=ya2 P N id ops fr' H' Q:=by rw [h1,h2]
theorem yrk {e:Exit} {Q:Exit->Fr->Hp->Prop} {K:Fr->Hp->Prop} (h1:fr=fr') (h2:H=H'):yfa Q K e fr H=yfa Q K e fr' H':=by rw [h1,h2]
theorem ymn {id:Nat} {e:Exit} {Q:Exit->Fr->Hp->Prop} (h1:fr=fr') (h2:H=H'):yef id Q e fr H=yef id Q e fr' H':=by rw [h1,h2]
theorem yuf {rs:List ResultVar} {K:AV->Fr->Hp->Prop} {e:Exit} (h1:fr=fr') (h2:H=H'):retI P rs K e fr H=retI P rs K e fr' H':=by rw [h1,h2]
end
attribute [congr] yzx yvr yrf yrg yv8 yv9 ywa ywb ywc ywd yri yrj yrk ymn yuf
attribute [go_sem] y48
end Go.Proofs.YtfgbnalnbdhimaaGreatDoor
namespace Go.Proofs.YtfgbnalnbdhimaaGreatDoor
open Go Go.RowKit
section
variable {P:Program} {B:Nat} {w0:ybi} {Mx:Nat->Prop} {N:Nat} {w:World} {ρ:Nat->Addr} {fr:Fr} {H:Hp} {a:Act}
theorem Sim.congr (h:Sim B w0 Mx N w ρ fr H a) {fr':Fr} {H':Hp} (hf: ∀t,fget fr' t=fget fr t) (hh: ∀i,hget H' i=hget H i):Sim B w0 Mx N w ρ fr' H' a:=by
 have eM:MM Mx H' ρ=MM Mx H ρ:=by funext b;unfold MM;simp only [hh]
 have eD:DD H'=DD H:=by funext b;unfold DD;simp only [hh]
 exact ⟨h.below,h.hB,h.mx,fun id o g=>h.own id o (by rw [←hh];exact g),fun id o g=>by rw [eM,eD];exact h.objs id o (by rw [←hh];exact g),fun id o id' o' g1 g2 g3 g4=>h.inj id o id' o' (by rw [←hh];exact g1) g2 (by rw [←hh];exact g3) g4,fun t=>by rw [eM,eD,hf];exact h.frv t,h.defers,h.size⟩
theorem Sim.slots (h:Sim B w0 Mx N w ρ fr H a) {fr':Fr} (hf: ∀t,fget fr' t= .any\/fget fr' t=fget fr t):Sim B w0 Mx N w ρ fr' H a:=
 ⟨h.below,h.hB,h.mx,h.own,h.objs,h.inj,fun t=>by
  rcases hf t with e|e
  ·rw [e];exact .any _
  ·rw [e];exact h.frv t,h.defers,h.size⟩
theorem Sim.reslot (h:Sim B w0 Mx N w ρ fr H a) {fr':Fr} (hf: ∀t,VR w (MM Mx H ρ) ρ (DD H) (gv w0 a t) (fget fr' t)):Sim B w0 Mx N w ρ fr' H a:=
 ⟨h.below,h.hB,h.mx,h.own,h.objs,h.inj,hf,h.defers,h.size⟩
theorem Sim.sub (h:Sim B w0 Mx N w ρ fr H a) {H':Hp} (hH: ∀i o,hget H' i=some o->hget H i=some o) (hO: ∀i o,hget H' i=some o->sO H' o=true) {fr':Fr} (hf: ∀t,fget fr' t= .any\/(fget fr' t=fget fr t/\s3 H' (fget fr' t)=true)):
  ∃My:Nat->Prop,MM My H' ρ=MM Mx H ρ/\Sim B w0 My N w ρ fr' H' a:=by
 let My:Nat->Prop:=fun b=>MM Mx H ρ b/\ ¬ ∃i o,hget H' i=some o/\o.live=true/\(ρ i).block=b
 have hM:MM My H' ρ=MM Mx H ρ:=by
  funext b
  apply propext
  constructor
  ·rintro (h1|⟨i,o,h1,h2,h3⟩)
   ·exact h1.1
   ·exact .inr ⟨i,o,hH i o h1,h2,h3⟩
  ·intro hb
   by_cases hx: ∃i o,hget H' i=some o/\o.live=true/\(ρ i).block=b
   ·exact .inr hx
   ·exact .inl ⟨hb,hx⟩
 refine ⟨My,hM,h.below,h.hB,fun b hb=>h.mm_lt b hb.1,fun i o h1 h2=>⟨(h.own i o (hH i o h1) h2).1,fun hh=>hh.2 ⟨i,o,h1,h2,rfl⟩⟩,fun i o h1=>?_,fun i o i' o' h1 h2 h3 h4 h5=>h.inj i o i' o' (hH _ _ h1) h2 (hH _ _ h3) h4 h5,fun t=>?_,h.defers,h.size⟩
 ·rw [hM]
  have hr:=h.objs i o (hH i o h1)
  have hso:=hO i o h1
  cases o with
  |gone=>trivial
  |cells t c=>
   obtain ⟨k1,arr,k2,k3,k4⟩:=hr
   refine ⟨k1,arr,k2,k3,fun j hj=>?_⟩
   obtain ⟨u,hu,hv⟩:=k4 j hj
   refine ⟨u,hu,?_⟩
   cases c with
   |ints l=>exact hv.pure1 rfl
   |bools l=>exact hv.pure1 rfl
   |lst l=>
    simp only [Cs.len] at hj
    simp only [Cs.get,List.getD_eq_getElem?_getD,List.getElem?_eq_getElem hj,Option.getD_some] at hv⊢
    exact hv.sc3 (List.all_eq_true.1 hso _ (List.getElem_mem hj))
  |gmap t ck l=>
   obtain ⟨es,k1,k2,k3⟩:=hr
   exact ⟨es,k1,k2,fun j e q he hl=>let ⟨g1,g2,g3⟩:=k3 j e q he hl;⟨g1,g2,g3.sc3 (List.all_eq_true.1 hso q (List.mem_of_getElem? hl))⟩⟩
  |iter mid s sn la=>
   obtain ⟨_,k2,k3⟩:=hr
   exact ⟨Option.isSome_iff_exists.1 hso,k2,k3⟩
  |imap t l=>
   obtain ⟨k0,es,ck,k1,k2,k3⟩:=hr
   exact ⟨k0,es,ck,k1,k2,fun j e k x he hl=>let ⟨g1,g2,g3⟩:=k3 j e k x he hl;⟨g1,g2.sc3 (List.all_eq_true.1 hso (k,x) (List.mem_of_getElem? hl)),g3⟩⟩
  |fmap t c=>exact hr
 ·rw [hM]
  rcases hf t with e|⟨e1,e2⟩
  ·rw [e];exact .any _
  ·exact VR.sc3 (D:=DD H) (by rw [e1];exact h.frv t) e2
theorem VR.laid (h:Sim B w0 Mx N w ρ fr H a) {nid:Nat} (hn:hget H nid=none) {blk:Obj} {o:AObj} {v:Value} {x:AV} (hv:VR w (MM Mx H ρ) ρ (DD H) v x):
  VR (w.alloc blk) (MM Mx ((nid,o)::H) (upd ρ nid ⟨w.heap.size,0,none⟩)) (upd ρ nid ⟨w.heap.size,0,none⟩) (DD ((nid,o)::H)) v x:=by
 have hsz:(w.alloc blk).heap.size=w.heap.size+1:=by show (w.heap.push blk).size=_;simp
 have hne: ∀id o',hget H id=some o'->id≠nid:=fun id o' h1 h2=>by subst h2;rw [hn] at h1;cases h1
 refine hv.carry (by omega) (fun b hb hm=>⟨ybp hb,?_⟩) (fun id hd=>?_)
 ·rintro (h1|⟨id,o',h1,h2,h3⟩)
  ·exact hm (.inl h1)
  ·simp only [hget] at h1
   split at h1
   ·rename_i e;subst e;rw [yau] at h3;simp at h3;omega
   ·rename_i e;rw [ya3 _ _ (fun h=>e h.symm)] at h3;exact hm (.inr ⟨id,o',h1,h2,h3⟩)
 ·obtain ⟨o',ho'⟩:=hd
  have:=hne id o' ho'
  exact ⟨⟨o',by simp only [hget];rw [if_neg (fun h=>this h.symm)];exact ho'⟩,ya3 _ _ this,fun arr t ha=>⟨arr,(ybp (yaj ha)).trans ha,rfl⟩⟩
end
def apG (P:Program) (nid:Nat) (H:Hp) (t:Nat) (s x:AV):Option (Prop×AV×Option Nat×AObj):=
 match tk P t with
 | .slice e=>match tsz P e,tby P e,tze P e with
   |some es,some by',some z=>if 0<es/\by'<=1048576/\z.length=es then
    match srcF H es x with
    |some (q,m,d)=>match s with
     | .nils=>match d with
       |some d=>some (q/\0<m/\m<=1048576, .sl es nid 0 m,none, .cells e d)
       |none=>none
     | .sl es' id off len=>match hget H id with
       |some (.cells t' c)=>if es=es'/\t'=e/\n2E d=true then
        some (q/\off+len*es=c.len/\len+m<=1048576, .sl es nid 0 (len+m),some id, .cells e (appO (c.drop off) d)) else none
       |_=>none
     |_=>none
    |none=>none
    else none
   |_,_,_=>none
 |_=>none
where n2E:Option Cs->Bool
 |some (.lst l)=>l.all ycd
 |_=>true
def hgo (H:Hp):Option Nat->Hp
 |none=>H
 |some id=>hset H id .gone
section
variable {P:Program} {B:Nat} {w0:ybi} {Mx:Nat->Prop} {N:Nat} {w:World} {ρ:Nat->Addr} {fr:Fr} {H:Hp} {a:Act}
theorem Sim.gone (h:Sim B w0 Mx N w ρ fr H a) {id:Nat} {o:AObj} (hid:hget H id=some o) (hl:o.live=true):
  Sim B w0 (fun b=>Mx b\/b=(ρ id).block) N w ρ fr (hset H id .gone) a/\MM (fun b=>Mx b\/b=(ρ id).block) (hset H id .gone) ρ=MM Mx H ρ/\DD (hset H id .gone)=DD H:=by
 have key: ∀i q,hget (hset H id .gone) i=some q->q.live=true->i≠id/\hget H i=some q:=fun i q h1 h2=>by
  by_cases e:id=i
  ·subst e;rw [ya0 hid] at h1;cases h1;cases h2
  ·rw [yaf e] at h1;exact ⟨Ne.symm e,h1⟩
 have hM:MM (fun b=>Mx b\/b=(ρ id).block) (hset H id .gone) ρ=MM Mx H ρ:=by
  funext b;apply propext;constructor
  ·rintro ((h1|h1)|⟨i,q,h1,h2,h3⟩)
   ·exact .inl h1
   ·exact .inr ⟨id,o,hid,hl,h1.symm⟩
   ·exact .inr ⟨i,q,(key i q h1 h2).2,h2,h3⟩
  ·rintro (h1|⟨i,q,h1,h2,h3⟩)
   ·exact .inl (.inl h1)
   ·by_cases e:id=i
    ·subst e;exact .inl (.inr h3.symm)
    ·exact .inr ⟨i,q,by rw [yaf e];exact h1,h2,h3⟩
 have hD:DD (hset H id .gone)=DD H:=by funext i;exact propext (yee hid i)
 refine ⟨⟨h.below,h.hB,fun b hb=>?_,fun i q h1 h2=>?_,fun i q h1=>?_,fun i q i' q' h1 h2 h3 h4 h5=>h.inj i q i' q' (key i q h1 h2).2 h2 (key i' q' h3 h4).2 h4 h5,fun t=>by rw [hM,hD];exact h.frv t,h.defers,h.size⟩,hM,hD⟩
 ·rcases hb with h1|h1
  ·exact h.mx b h1
  ·rw [h1];exact (h.objs id o hid).lt hl
 ·obtain ⟨hne,g1⟩:=key i q h1 h2
  exact ⟨(h.own i q g1 h2).1,fun hh=>by
   rcases hh with hh|hh
   ·exact (h.own i q g1 h2).2 hh
   ·exact hne (h.inj i q id o g1 h2 hid hl hh)⟩
 ·rw [hM,hD]
  by_cases e:id=i
  ·subst e;rw [ya0 hid] at h1;cases h1;trivial
  ·rw [yaf e] at h1;exact h.objs i q h1
theorem ywe (h:Sim B w0 Mx N w ρ fr H a) {nid t ty:Nat} (hn:hget H nid=none) {s x:AV} {u v:Value} {p:Prop} {r:AV} {g:Option Nat} {ob:AObj} (hu:VR w (MM Mx H ρ) ρ (DD H) u s) (hv:VR w (MM Mx H ρ) ρ (DD H) v x)
  (ha:apG P nid H t s x=some (p,r,g,ob)) (hp:p): ∃z w' ρ',(Builtin.append_ #[t,t] ty #[u,v]).run P w= .ok z w'/\Sim B w0 Mx N w' ρ' fr ((nid,ob)::hgo H g) a/\VR w' (MM Mx ((nid,ob)::hgo H g) ρ') ρ' (DD ((nid,ob)::hgo H g)) z r:=by
 unfold apG at ha
 split at ha
 ·rename_i e hk
  have ht:=yax hk
  split at ha
  ·rename_i es by' z h1 h2 h3
   split at ha
   ·rename_i hh
    obtain ⟨hes,hby,hz⟩:=hh
    obtain ⟨i,zv,i1,i2,i3⟩:=ydt h3
    obtain ⟨i',i4,i5⟩:=yj7 h2
    rw [i1] at i4;cases i4
    obtain ⟨i',i6,i7⟩:=yhf h1
    rw [i1] at i6;cases i6
    have hzs:zv.cells.size=es:=by have:=congrArg List.length i3;simp at this;omega
    split at ha
    ·rename_i q m d hsrc
     split at ha
     ·split at ha
      ·rename_i d
       cases ha
       obtain ⟨hq,hm,hml⟩:=hp
       obtain ⟨A,c,news,rfl,n1',n2',n3',n4',n5'⟩:=yd7 h.objs hv hsrc hq
       have e:=hu.nils_inv
       subst e
       obtain ⟨ad,rfl⟩: ∃ad,A=some ad:=by
        cases A with
        |none=>have:=n3' rfl;omega
        |some ad=>exact ⟨ad,rfl⟩
       have hb48:m*i.bytes<=281474976710656:=by
        have:m*i.bytes<=1048576*1048576:=Nat.mul_le_mul (by omega) (by omega)
        omega
       have hr:=run_append_nil (P:=P) w t ty e i zv ht i1 i2 ad m c news (by rw [i7];exact n1') (n4' ad rfl) hm (by omega) hb48
       have hdw:=h.draw
       simp only [lenO] at n2'
       have hcap:m<=grownCap w m 0 e:=by unfold grownCap;simp only [Question.cut];omega
       have hasz:(news.toArray++Builtin.zeroCells zv.cells (grownCap w m 0 e-m)).size=grownCap w m 0 e*es:=by
        simp only [Array.size_append,Builtin.zeroCells,Array.size_map,Array.size_range,List.size_toArray,n1',hzs]
        rw [←Nat.add_mul];congr 1;omega
       have hall:=hdw.allocCells nid hn (news.toArray++Builtin.zeroCells zv.cells (grownCap w m 0 e-m)) e d (by rw [hasz,n2'];exact Nat.mul_le_mul_right _ hcap) (fun j hj=>by
        have hj':j<news.length:=by omega
        refine ⟨news[j],by rw [Array.getElem?_append_left (by simpa using hj')];simp [hj'],?_⟩
        have:=n5' j news[j] (List.getElem?_eq_getElem hj')
        exact this.carry (w':={w with drawn:=w.drawn+1}) (Nat.le_refl _) (fun _ _ hm=>⟨rfl,hm⟩) (fun id hd=>⟨hd,rfl,fun arr t ha=>⟨arr,ha,rfl⟩⟩))
       exact ⟨_,_,_,hr,hall,ydx (w:={w with drawn:=w.drawn+1}) hcap (by rw [hasz];exact Nat.le_refl _)⟩
      ·cases ha
     ·rename_i es' id off len
      split at ha
      ·rename_i t' c ho
       split at ha
       ·rename_i hcond
        obtain ⟨rfl,rfl,hn2⟩:=hcond
        cases ha
        obtain ⟨hq,hoff,hml⟩:=hp
        obtain ⟨A,cx,news,rfl,n1',n2',n3',n4',n5'⟩:=yd7 h.objs hv hsrc hq
        obtain ⟨hsp,arr0,hb0,hl0,hcs0⟩:=h.objs id _ ho
        obtain ⟨hdet,hMg,hDg⟩:=h.gone ho rfl
        have hgnone:hget (hset H id .gone) nid=none:=by
         by_cases e:id=nid
         ·subst e;rw [ho] at hn;cases hn
         ·rw [yaf e];exact hn
        have hclen:(c.drop off).len=len*es:=by rw [Cs.len_drop];omega
        have hgetD: ∀j u,news[j]?=some u->VR w (MM Mx H ρ) ρ (DD H) u (getO d j)/\oneC u:=fun j u hu=>by
         have g:=n5' j u hu
         have hj:j<lenO d:=by
          have:j<news.length:=by
           rcases Nat.lt_or_ge j news.length with g|g
           ·exact g
           ·rw [List.getElem?_eq_none g] at hu;cases hu
          omega
         refine ⟨g,?_⟩
         cases d with
         |none=>simp [lenO] at hj
         |some d=>
          cases d with
          |ints l=>exact g.oneC rfl
          |bools l=>exact g.oneC rfl
          |lst l=>
           simp only [lenO,Cs.len] at hj
           have hx:=List.all_eq_true.1 hn2 _ (List.getElem_mem hj)
           simp only [getO,Cs.get,List.getD_eq_getElem?_getD,List.getElem?_eq_getElem hj,Option.getD_some] at g
           exact g.oneC hx
        have hgetC: ∀j,j<len*es-> ∃u,arr0[(ρ id).off+off+j]?=some u/\VR w (MM Mx H ρ) ρ (DD H) u ((c.drop off).get j):=fun j hj=>by
         obtain ⟨u,g1,g2⟩:=hcs0 (off+j) (by omega)
         exact ⟨u,by rw [Nat.add_assoc];exact g1,by rw [Cs.get_drop];exact g2⟩
        cases hu with
        |sl es id off len cap hd hcap arr t ad0 ha0 hb hr=>
         rw [hb0] at hb
         cases hb
         have hbase:(ρ id).add off=⟨(ρ id).block,(ρ id).off+off,none⟩:=ych hsp off
         by_cases hfit:len+m<=cap
         ·have hf:=ygz (P:=P) (w:=w) (es:=es) (n:=m) (c:=cx) (A:=A) (news:=news) n1' n4' n3'
          have hroom:(ρ id).off+off+len*es+news.length<=arr0.size:=by
           rw [n1']
           have:(len+m)*es<=cap*es:=Nat.mul_le_mul_right _ hfit
           rw [Nat.add_mul] at this;omega
          obtain ⟨w',arr',r1,r2,r3,r4,r5,r6,r7,r8,r9⟩:=yde (P:=P) (b:=(ρ id).block) (t:=t') (o:=(ρ id).off+off+len*es) news 0 w arr0 hb0 (by omega) (fun u hu=>by
           obtain ⟨j,hj⟩:=List.mem_iff_getElem?.1 hu;exact (hgetD j u hj).2)
          have hbadd:((ρ id).add off).add (len*es)=⟨(ρ id).block,(ρ id).off+off+len*es,none⟩:=by rw [hbase,ych rfl]
          have hrun:=yg0 (P:=P) (w:=w) (ty:=ty) (w':=w') ht h1 ad0 len cap m cx A news hf hfit (by
           by_cases hc0:0<cap
           ·rw [ha0 hc0,hbadd];exact r1
           ·have hn0:news=[]:=List.eq_nil_of_length_eq_zero (by rw [n1',show m=0 by omega];simp)
            subst hn0
            simp [storeCells] at r1⊢
            exact r1)
          have hatt:=hdet.attach (My:=Mx) (id:=nid) (b:=(ρ id).block) (t:=t') (off:=(ρ id).off+off) (c:=appO (c.drop off) d) hgnone (fun x=>Iff.rfl) (h.own id _ ho rfl).2 (h.own id _ ho rfl).1 hb0 r2 r3 r4 r5 r6 r7 r8
           (by rw [yc5,hclen,n2',r3]
               have:(len+m)*es<=cap*es:=Nat.mul_le_mul_right _ hfit
               rw [Nat.add_mul] at this;omega) (fun j hj=>by
            rw [hMg,hDg]
            rw [yc5,hclen,n2'] at hj
            rw [yhi _ _ _ (by rw [hclen,n2'];exact hj),hclen,r9]
            by_cases c1:j<len*es
            ·rw [if_pos c1,if_neg (by omega)];exact hgetC j c1
            ·rw [if_neg c1,if_pos (by omega)]
             have e1:(ρ id).off+off+j-((ρ id).off+off+len*es+0)=j-len*es:=by omega
             rw [e1]
             have hlt:j-len*es<news.length:=by omega
             exact ⟨news[j-len*es],List.getElem?_eq_getElem hlt,(hgetD _ _ (List.getElem?_eq_getElem hlt)).1⟩)
          refine ⟨_,w',_,hrun,hatt,?_⟩
          exact VR.sl es nid 0 (len+m) cap yft hfit arr' t' ad0 (fun hc0=>by rw [yau,ha0 hc0,hbase];rfl) (by rw [yau];exact r2) (by rw [yau,r3];simpa using hr)
         ·have holdl: ∃olds:List Value,olds.length=len*es/\ ∀(j:Nat) (u:Value),olds[j]?=some u->w.cell? (((ρ id).add off).add j)=some u/\VR w (MM Mx H ρ) ρ (DD H) u ((c.drop off).get j):=by
           have hx: ∀j,∃u,j<len*es->w.cell? (((ρ id).add off).add j)=some u/\VR w (MM Mx H ρ) ρ (DD H) u ((c.drop off).get j):=fun j=>by
            by_cases hj:j<len*es
            ·obtain ⟨u,g1,g2⟩:=hgetC j hj
             exact ⟨u,fun _=>⟨by rw [hbase,ych rfl];simp [World.cell?,hb0,g1],g2⟩⟩
            ·exact ⟨undef,fun h=>absurd h hj⟩
           obtain ⟨g,hg⟩:=Classical.axiomOfChoice hx
           refine ⟨(List.range (len*es)).map g,by simp,fun j u hu=>?_⟩
           simp only [List.getElem?_map] at hu
           by_cases hj:j<len*es
           ·simp [List.getElem?_range hj] at hu;subst hu;exact hg j hj
           ·simp [List.getElem?_eq_none (l:=List.range (len*es)) (i:=j) (by simp;omega)] at hu
          obtain ⟨olds,o1,o2⟩:=holdl
          have hmpos:0<m:=by omega
          obtain ⟨ad,rfl⟩: ∃ad,A=some ad:=by
           cases A with
           |none=>have:=n3' rfl;omega
           |some ad=>exact ⟨ad,rfl⟩
          have hfits:Builtin.nextslicecap (len+m) cap*i.bytes<=281474976710656:=growslice_fits (by omega) (by
           have:(len+m)*i.bytes<=1048576*1048576:=Nat.mul_le_mul (by omega) (by omega)
           omega)
          have hr':=run_append_grow (P:=P) w t ty t' i zv ht i1 i2 ad0 len cap olds (by rw [i7];exact o1) (fun j u hu=>by
           have hjl:j<olds.length:=by
            rcases Nat.lt_or_ge j olds.length with g|g
            ·exact g
            ·rw [List.getElem?_eq_none g] at hu;cases hu
           have hl0:0<len:=by
            rcases Nat.eq_zero_or_pos len with e|e
            ·subst e;simp at o1;simp [o1] at hjl
            ·exact e
           rw [ha0 (by omega)];exact (o2 j u hu).1) ad m cx news (by rw [i7];exact n1') (n4' ad rfl) (by omega) (by omega) hfits
          have hcap':len+m<=grownCap w (len+m) cap t':=by unfold grownCap;simp only [Question.cut];omega
          have hasz:(olds.toArray++news.toArray++Builtin.zeroCells zv.cells (grownCap w (len+m) cap t'-(len+m))).size=grownCap w (len+m) cap t'*es:=by
           simp only [Array.size_append,Builtin.zeroCells,Array.size_map,Array.size_range,List.size_toArray,n1',o1,hzs]
           rw [←Nat.add_mul,←Nat.add_mul];congr 1;omega
          have hdw:=(hdet.allow (My:=Mx) (fun b hb=> .inl hb)).draw
          have hMy: ∀b,MM Mx (hset H id .gone) ρ b->MM Mx H ρ b:=fun b hb=>by rw [←hMg];exact hb.imp .inl (fun h=>h)
          have hcd: ∀{v:Value} {x:AV},VR w (MM Mx H ρ) ρ (DD H) v x->VR {w with drawn:=w.drawn+1} (MM Mx (hset H id .gone) ρ) ρ (DD (hset H id .gone)) v x:=fun hv=>
           hv.carry (w':={w with drawn:=w.drawn+1}) (Nat.le_refl _) (fun b _ hm=>⟨rfl,fun hh=>hm (hMy b hh)⟩) (fun k hd=>⟨by rw [hDg];exact hd,rfl,fun arr t ha=>⟨arr,ha,rfl⟩⟩)
          have hall:=hdw.allocCells nid hgnone (olds.toArray++news.toArray++Builtin.zeroCells zv.cells (grownCap w (len+m) cap t'-(len+m))) t' (appO (c.drop off) d)
           (by rw [hasz,yc5,hclen,n2',←Nat.add_mul];exact Nat.mul_le_mul_right _ hcap') (fun j hj=>by
            rw [yc5,hclen,n2'] at hj
            rw [yhi _ _ _ (by rw [hclen,n2'];exact hj),hclen]
            by_cases c1:j<len*es
            ·rw [if_pos c1]
             have hlt:j<olds.length:=by omega
             exact ⟨olds[j],by rw [Array.getElem?_append_left (by simp;omega),Array.getElem?_append_left (by simpa using hlt)];simp [hlt],hcd (o2 j _ (List.getElem?_eq_getElem hlt)).2⟩
            ·rw [if_neg c1]
             have hlt:j-len*es<news.length:=by omega
             exact ⟨news[j-len*es],by rw [Array.getElem?_append_left (by simp;omega),Array.getElem?_append_right (by simp;omega)];simp [o1,hlt],hcd (hgetD _ _ (List.getElem?_eq_getElem hlt)).1⟩)
          exact ⟨_,_,_,hr',hall,ydx (w:={w with drawn:=w.drawn+1}) hcap' (by rw [hasz];exact Nat.le_refl _)⟩
       ·cases ha
      ·cases ha
     ·cases ha
    ·cases ha
   ·cases ha
  ·cases ha
 ·cases ha
end
def ycf:Op->Bool
 | .move _| .assign _| .pick .. | .binOp .. | .unOp .. | .fieldAddr .. | .field .. | .indexAddr .. | .extract .. | .nilCheck _| .convert .. | .makeFunc .. | .build .. | .slice .. =>true
 | .call {callee:= .builtin .len, .. }| .call {callee:= .builtin .cap, .. }| .call {callee:= .builtin .min, .. }| .call {callee:= .builtin .max, .. }=>true
 |_=>false
def loud:Op->Bool
 | .store .. =>true
 | .insert .. =>true
 | .call {callee:= .builtin .append, .. }=>true
 |_=>false
def ydp:Op->Bool
 | .insert .. =>true
 |_=>false
def insO (H:Hp) (id:Nat) (n x:Int):Option AObj->Hp
 |some (.fmap t (.ints g))=>hset H id (.fmap t (.ints (updI g n x)))
 |_=>H
def insE (H:Hp) (id:Nat) (n x:Int):Hp:=insO H id n x (hget H id)
def inO (id:Nat) (n x:Int):Option AObj->Option (Prop×Nat×Int×Int)
 |some (.fmap _ (.ints g))=>some (g n=none,id,n,x)
 |_=>none
def inK (H:Hp):TK->AV->AV->AV->Option (Prop×Nat×Int×Int)
 | .int .i64, .mp id, .int .i64 n, .int .i64 x=>inO id n x (hget H id)
 |_,_,_,_=>none
def inF (P:Program) (H:Hp) (t:Nat) (m k v:AV):Option (Prop×Nat×Int×Int):=match tk P t with
 | .map kt _=>inK H (tk P kt) m k v
 |_=>none
theorem yug {P:Program} {H H':Hp} {ev:Operand->AV} {o:Op} (h:ycf o=true):quF P H ev o=quF P H' ev o:=by
 cases o with
 |call c=>
  obtain ⟨callee,args,ts⟩:=c
  cases callee with
  |builtin b=>cases b<;>first|rfl|cases h
  |_=>cases h
 |slice t x lo hi mx=>cases mx<;>rfl
 |makeFunc fn _ _=>cases fn<;>rfl
 |_=>first|rfl|cases h
def ybb (o:Oper):List Nat:=(o.after.toList.filter fun e=>Region.binds .any e).map (·.on)
def ancs:List Oper->List (List Nat)->List (List Nat)
 |[],tab=>tab
 |o::r,tab=>ancs r (tab++[((ybb o).flatMap fun i=>i::tab.getD i []).eraseDups])
def ybc (ops:Array Oper):List (List Nat):=ancs ops.toList []
def fer (ex:List Nat):Fr->Fr
 |[]=>[]
 |(t,x)::r=>(t,if ex.contains t then .any else x)::fer ex r
def yak (dl:List Nat):Hp->Hp
 |[]=>[]
 |(i,o)::r=>if dl.contains i then yak dl r else (i,o)::yak dl r
theorem yfx (ex:List Nat) (fr:Fr) (t:Nat):fget (fer ex fr) t=if ex.contains t then .any else fget fr t:=by
 induction fr with
 |nil=>simp [fer,fget]
 |cons p r ih=>
  obtain ⟨s,x⟩:=p
  simp only [fer,fget]
  by_cases h:s=t
  ·subst h;simp
  ·simp only [h,if_false];exact ih
theorem ylk (dl:List Nat) (H:Hp) (i:Nat):hget (yak dl H) i=if dl.contains i then none else hget H i:=by
 induction H with
 |nil=>simp [yak,hget]
 |cons p r ih=>
  obtain ⟨s,x⟩:=p
  simp only [yak]
  by_cases h1:dl.contains s
  ·rw [if_pos h1,ih]
   by_cases h:s=i
   ·subst h;rw [if_pos h1,if_pos h1]
   ·simp [hget,h]
  ·rw [if_neg h1]
   simp only [hget]
   by_cases h:s=i
   ·subst h;simp only [if_true];rw [if_neg h1]
   ·simp only [h,if_false];exact ih
def fsc (H:Hp):Fr->Fr
 |[]=>[]
 |(t,x)::r=>(t,if s3 H x then x else .any)::fsc H r
theorem yo5 (H:Hp) (fr:Fr) (t:Nat):fget (fsc H fr) t= .any\/(fget (fsc H fr) t=fget fr t/\s3 H (fget (fsc H fr) t)=true):=by
 induction fr with
 |nil=>exact .inl rfl
 |cons p r ih=>
  obtain ⟨s,x⟩:=p
  simp only [fsc,fget]
  by_cases h:s=t
  ·subst h
   simp only [if_true]
   by_cases h2:s3 H x=true
   ·simp [h2]
   ·simp [h2]
  ·simp only [h,if_false];exact ih
def stP:Op->Option Nat
 | .store _ (.tmp d) _=>some d
 |_=>none
def unw (ops:Array Oper) (d:Nat):Bool:=ops.toList.all fun o=>o.dst !=some d
def yey (ops:Array Oper):Option Nat->Option Nat->Bool
 |some a,some b=>a !=b&&unw ops a&&unw ops b
 |_,_=>false
def yes (ops:Array Oper) (x y:Op):Bool:=yey ops (stP x) (stP y)
def sepV:AV->AV->Bool
 | .ptr x _, .ptr y _=>x !=y
 |_,_=>false
def sep2 (fr:Fr) (a b:Nat):Bool:=a==b||sepV (fget fr a) (fget fr b)
def sepF (fr:Fr) (l:List Nat):Bool:=l.all fun a=>l.all fun b=>sep2 fr a b
def yhn:Op->Bool
 | .load .. =>true
 | .call {callee:= .value _, .. }=>true
 |_=>false
def yr0:Op->Bool
 | .alloc _=>true
 |_=>false
def farW (ops:Array Oper) (i j:Nat):Bool:=match (ops.getD j default).op with
 | .store _ (.tmp a) _=>(List.range ops.size).any fun k=>decide (i<k)&&((ybc ops).getD j []).contains k&&(ops.getD k default).dst==some a&&yr0 (ops.getD k default).op&&(List.range ops.size).all fun q=>q==k||(ops.getD q default).dst !=some a
 |_=>false
def bk (base k:Nat):Nat:=if k<1000000 then base+k else k-1000000
attribute [go_sem] bk
theorem yuh {base k:Nat} (h:k<1000000):bk base k=base+k:=if_pos h
theorem y67 {base k:Nat}:bk base (1000000+k)=k:=by unfold bk;rw [if_neg (by omega)];omega
def farS (ops:Array Oper) (al ids:List Nat) (dl:List (List Nat)) (i j:Nat):Bool:=decide (i<j)&&(match (ops.getD j default).op with
 | .store _ (.tmp a) _=>al.contains a&&(List.range ops.size).all fun q=>(ops.getD q default).dst !=some a
 |_=>false)&&ids.all fun id=>(dl.getD i []).contains (1000000+id)
def chkR (al ids:List Nat) (ops:Array Oper) (ex dl:List (List Nat)):Bool:=decide (ops.size<=1000000)&&
 (
 let tab:=ybc ops
 let n:=ops.size
 (List.range n).all fun j=>(List.range n).all fun i=>(i==j||
  (let before:=(tab.getD j []).contains i
   let after:=(tab.getD i []).contains j
   (before||after||(match (ops.getD i default).dst with|some d=>(ex.getD j []).contains d|none=>true))&&
   (before|| !decide (i<j)||(dl.getD j []).contains i)&&
   (ycf (ops.getD i default).op|| !loud (ops.getD j default).op||before||loud (ops.getD i default).op||(yhn (ops.getD i default).op&&(dl.getD i []).contains i&&(farW ops i j||farS ops al ids dl i j)))&&
   (!loud (ops.getD i default).op|| !loud (ops.getD j default).op||before||after||(ydp (ops.getD i default).op&&ydp (ops.getD j default).op)||yes ops (ops.getD i default).op (ops.getD j default).op)&&
   (!ydp (ops.getD i default).op|| !loud (ops.getD j default).op||ydp (ops.getD j default).op)&&
   (before||after||(ops.getD i default).dst !=(ops.getD j default).dst||(ops.getD i default).dst==none)))&&(!before0 tab i j||decide (i<j))&&((ybb (ops.getD j default)).all fun e=>decide (e<j)))
where before0 (tab:List (List Nat)) (i j:Nat):Bool:=(tab.getD j []).contains i
def chk (ops:Array Oper) (ex dl:List (List Nat)):Bool:=chkR [] [] ops ex dl
def ymo (ops:Array Oper):Bool:=decide (0<ops.size)&&(ops.getD (ops.size-1) default).guard.isNone&&(List.range (ops.size-1)).all fun i=>((ybc ops).getD (ops.size-1) []).contains i
def yoo (ops:Array Oper):Bool:=
 let tab:=ybc ops
 (List.range ops.size).all fun j=>(List.range ops.size).all fun i=>i==j|| !yes ops (ops.getD i default).op (ops.getD j default).op||(tab.getD j []).contains i||(tab.getD i []).contains j
def awD (P:Program) (N:Nat) (ops:Array Oper) (base:Nat):Nat->List Oper->List (List Nat)->List (List Nat)->Fr->Hp->(Fr->Hp->Prop)->Prop
 |_,[],_,_,fr,H,K=>K fr H
 |_,_::_,[],_,_,_,_=>False
 |_,_::_,_::_,[],_,_,_=>False
 |j,o::r,ex::exs,dl::dls,fr,H,K=>match o.guard with
  |none=>awDO P N base j o ex dl fr H fun fr' H'=>awD P N ops base (j+1) r exs dls fr' H' K
  |some (g,b)=>match gval ops (fer ex fr) g with
   | .bool c=>gsp c b (awDO P N base j o ex dl fr H fun fr' H'=>awD P N ops base (j+1) r exs dls fr' H' K) (dok o.dst N=true/\awD P N ops base (j+1) r exs dls (fput fr o.dst (.tup [])) H K)
   | .tup []=>dok o.dst N=true/\awD P N ops base (j+1) r exs dls (fput fr o.dst (.tup [])) H K
   |_=>False
where
 awDO (P:Program) (N base j:Nat) (o:Oper) (ex dl:List Nat) (fr:Fr) (H:Hp) (K:Fr->Hp->Prop):Prop:=
  cvOk P o.op=true/\dok o.dst N=true/\if ycf o.op then (match quF P H (evA (fer ex fr)) o.op with
   |some (p,r)=>p/\K (fput fr o.dst r) H
   |none=>False)
  else match quF P (yak (dl.map (bk base)) H) (evA (fsc (yak (dl.map (bk base)) H) (fer ex fr))) o.op with
   |some (p,r)=>(yak (dl.map (bk base)) H).all (fun q=>sO (yak (dl.map (bk base)) H) q.2)=true/\p/\K (fput fr o.dst r) H
   |none=>match alF P (base+j) (evA (fer ex fr)) o.op with
    |some (p,r,ob)=>p/\K (fput fr o.dst r) ((base+j,ob)::H)
    |none=>match o.op with
     | .store t x y=>match stF P H t (evA (fer ex fr) x) (evA (fer ex fr) y) with
       |some (p,id,ob)=>p/\K (fput fr o.dst .any) (hset H id ob)
       |none=>False
     | .insert t m k v=>match inF P H t (evA (fer ex fr) m) (evA (fer ex fr) k) (evA (fer ex fr) v) with
       |some (p,id,n,x)=>p/\K (fput fr o.dst .any) (insE H id n x)
       |none=>False
     | .call {callee:= .builtin .append,args:=args,argTypes:=ts}=>match args.toList,ts.toList with
       |[s,x],[t,t']=>t=t'/\match apG P (base+j) H t (evA (fer ex fr) s) (evA (fer ex fr) x) with
        |some (p,r,g,ob)=>p/\K (fput fr o.dst r) ((base+j,ob)::hgo H g)
        |none=>False
       |_,_=>False
     | .call {callee:= .value f,args:=args, .. }=>match evA (fsc (yak (dl.map (bk base)) H) (fer ex fr)) f with
       | .fn g cap=>(yak (dl.map (bk base)) H).all (fun q=>sO (yak (dl.map (bk base)) H) q.2)=true/\ylg P g (args.toList.map (evA (fsc (yak (dl.map (bk base)) H) (fer ex fr)))++cap) (yak (dl.map (bk base)) H) (base+j) (fun r=>K (fput fr o.dst r) H) (fun r ob=>(!(dl.map (bk base)).contains (base+j))=true/\K (fput fr o.dst r) ((base+j,ob)::H))
       |_=>False
     |_=>False
end Go.Proofs.YtfgbnalnbdhimaaGreatDoor
namespace Go.Proofs.YtfgbnalnbdhimaaGreatDoor
open Go Go.RowKit
inductive Ent where
 |skip
 |quiet (r:AV)
 |alloc (r:AV) (ob:AObj)
 |store (id:Nat) (ob:AObj)
 |app (r:AV) (g:Option Nat) (ob:AObj)
 |ins (id:Nat) (n x:Int)
def Ent.isLd:Ent->Bool
 | .store .. | .app .. | .ins .. =>true
 |_=>false
def Ent.val:Ent->AV
 | .skip=> .tup []
 | .quiet r=>r
 | .alloc r _=>r
 | .app r _ _=>r
 |_=> .any
def Ent.eff (nid:Nat) (H:Hp):Ent->Hp
 | .alloc _ ob=>(nid,ob)::H
 | .store id ob=>hset H id ob
 | .app _ g ob=>(nid,ob)::hgo H g
 | .ins id n x=>insE H id n x
 |_=>H
theorem yui {P:Program} {f:Nat} {xs:List AV} {H:Hp} {K:AV->Prop} (h:ybd P f xs H K): ∃r,ybd P f xs H (· =r)/\K r:=by
 unfold ybd at h⊢
 split at h
 ·rename_i hp;obtain ⟨r,h1,h2⟩:=h;exact ⟨r,by rw [if_pos hp];exact ⟨r,h1,rfl⟩,h2⟩
 ·rename_i hp;obtain ⟨h0,r,h1,h3⟩:=h;exact ⟨r,by rw [if_neg hp];exact ⟨h0,r,h1,rfl⟩,h3⟩
section
variable (P:Program) (N:Nat) (ops:Array Oper) (base:Nat) (ex dl:List (List Nat))
def exOf (j:Nat):List Nat:=ex.getD j []
def dlOf (j:Nat):List Nat:=(dl.getD j []).map (bk base)
def yfy (o:Oper) (fw:Fr):Prop:=o.guard=none\/ ∃g b,o.guard=some (g,b)/\gval ops fw g= .bool b
def ydq (j:Nat) (o:Oper) (fr:Fr) (H:Hp):Ent->Prop
 | .skip=> ∃g b,o.guard=some (g,b)/\(gval ops (fer (exOf ex j) fr) g= .bool (!b)\/gval ops (fer (exOf ex j) fr) g= .tup [])
 | .quiet r=>yfy ops o (fer (exOf ex j) fr)/\cvOk P o.op=true/\
   ((ycf o.op=true/\ ∃p,quF P H (evA (fer (exOf ex j) fr)) o.op=some (p,r)/\p)\/
    (ycf o.op=false/\loud o.op=false/\(yak (dlOf base dl j) H).all (fun q=>sO (yak (dlOf base dl j) H) q.2)=true/\
     ((∃p,quF P (yak (dlOf base dl j) H) (evA (fsc (yak (dlOf base dl j) H) (fer (exOf ex j) fr))) o.op=some (p,r)/\p)\/
      ∃f args ts g cap,o.op= .call {callee:= .value f,args:=args,argTypes:=ts}/\evA (fsc (yak (dlOf base dl j) H) (fer (exOf ex j) fr)) f= .fn g cap/\
       ybd P g (args.toList.map (evA (fsc (yak (dlOf base dl j) H) (fer (exOf ex j) fr)))++cap) (yak (dlOf base dl j) H) (· =r))))
 | .alloc r ob=>yfy ops o (fer (exOf ex j) fr)/\ycf o.op=false/\loud o.op=false/\((∃p,alF P (base+j) (evA (fer (exOf ex j) fr)) o.op=some (p,r,ob)/\p)\/((!(dlOf base dl j).contains (base+j))=true/\(yak (dlOf base dl j) H).all (fun q=>sO (yak (dlOf base dl j) H) q.2)=true/\
   ∃f args ts g cap,o.op= .call {callee:= .value f,args:=args,argTypes:=ts}/\evA (fsc (yak (dlOf base dl j) H) (fer (exOf ex j) fr)) f= .fn g cap/\
    yub P g (args.toList.map (evA (fsc (yak (dlOf base dl j) H) (fer (exOf ex j) fr)))++cap) (yak (dlOf base dl j) H) (base+j) (fun r' ob'=>r'=r/\ob'=ob)))
 | .store id ob=>yfy ops o (fer (exOf ex j) fr)/\ycf o.op=false/\loud o.op=true/\ ∃t x y p,o.op= .store t x y/\stF P H t (evA (fer (exOf ex j) fr) x) (evA (fer (exOf ex j) fr) y)=some (p,id,ob)/\p
 | .app r g ob=>yfy ops o (fer (exOf ex j) fr)/\ycf o.op=false/\loud o.op=true/\ ∃s x t p,o.op= .call {callee:= .builtin .append,args:= #[s,x],argTypes:= #[t,t]}/\apG P (base+j) H t (evA (fer (exOf ex j) fr) s) (evA (fer (exOf ex j) fr) x)=some (p,r,g,ob)/\p
 | .ins id n x=>yfy ops o (fer (exOf ex j) fr)/\ycf o.op=false/\loud o.op=true/\ ∃t m k v p,o.op= .insert t m k v/\inF P H t (evA (fer (exOf ex j) fr) m) (evA (fer (exOf ex j) fr) k) (evA (fer (exOf ex j) fr) v)=some (p,id,n,x)/\p
variable (es:Nat->Ent)
def yal (i:Nat):Option Nat:=(ops.getD i default).dst
def frS (fr0:Fr) (E:Nat->Bool):Nat->Fr
 |0=>fr0
 |k+1=>if E k then fput (frS fr0 E k) (yal ops k) (es k).val else frS fr0 E k
def hS (H0:Hp) (E:Nat->Bool):Nat->Hp
 |0=>H0
 |k+1=>if E k then (es k).eff (base+k) (hS H0 E k) else hS H0 E k
end
section
variable {P:Program} {N:Nat} {ops:Array Oper} {base:Nat} {ex dl:List (List Nat)} {es:Nat->Ent} {fr0:Fr} {H0:Hp}
theorem ygn {E E':Nat->Bool} {t:Nat}: ∀k,(∀i,i<k->yal ops i=some t->E i=E' i)->fget (frS ops es fr0 E k) t=fget (frS ops es fr0 E' k) t
 |0,_=>rfl
 |k+1,h=>by
  have ih:=ygn k fun i hi hd=>h i (by omega) hd
  simp only [frS]
  by_cases hd:yal ops k=some t
  ·rw [h k (by omega) hd,hd]
   split
   ·simp [fput,fget]
   ·exact ih
  ·have hne: ∀(fr:Fr) (x:AV),fget (fput fr (yal ops k) x) t=fget fr t:=fun fr x=>by
    cases hk:yal ops k with
    |none=>rfl
    |some d=>simp only [fput,fget];rw [if_neg (fun e=>hd (by rw [hk,e]))]
   split<;>split<;>simp only [hne,ih]
theorem ywf {j:Nat} {E:Nat->Bool} (hE: ∀i,E i=decide (i<j)): ∀k,j<=k->frS ops es fr0 E k=frS ops es fr0 (fun _=>true) j:=by
 have h1: ∀k,k<=j->frS ops es fr0 E k=frS ops es fr0 (fun _=>true) k:=by
  intro k
  induction k with
  |zero=>intro _;rfl
  |succ k ih=>intro hk;simp only [frS,hE k,ih (by omega)];simp [show k<j by omega]
 intro k hk
 induction k with
 |zero=>have:j=0:=by omega
        subst this;rfl
 |succ k ih=>
  by_cases hj:j=k+1
  ·subst hj;exact h1 _ (Nat.le_refl _)
  ·simp only [frS,hE k]
   rw [if_neg (by simp;omega)]
   exact ih (by omega)
theorem yeh {E E':Nat->Bool}: ∀k,(∀i,i<k->(∀H,(es i).eff (base+i) H=H)\/E i=E' i)->hS base es H0 E k=hS base es H0 E' k
 |0,_=>rfl
 |k+1,h=>by
  have ih:=yeh k fun i hi=>h i (by omega)
  simp only [hS]
  rcases h k (by omega) with h1|h1
  ·simp only [h1,ih];split<;>split<;>rfl
  ·rw [h1,ih]
theorem yuj {j:Nat} {E:Nat->Bool} (hE: ∀i,E i=decide (i<j)): ∀k,j<=k->hS base es H0 E k=hS base es H0 (fun _=>true) j:=by
 have h1: ∀k,k<=j->hS base es H0 E k=hS base es H0 (fun _=>true) k:=by
  intro k
  induction k with
  |zero=>intro _;rfl
  |succ k ih=>intro hk;simp only [hS,hE k,ih (by omega)];simp [show k<j by omega]
 intro k hk
 induction k with
 |zero=>have:j=0:=by omega
        subst this;rfl
 |succ k ih=>
  by_cases hj:j=k+1
  ·subst hj;exact h1 _ (Nat.le_refl _)
  ·simp only [hS,hE k]
   rw [if_neg (by simp;omega)]
   exact ih (by omega)
def isAl:Ent->Option AObj
 | .alloc _ ob=>some ob
 |_=>none
theorem yll {E:Nat->Bool} (hb: ∀i,base<=i->hget H0 i=none): ∀k,(∀i,i<k->E i=true->(es i).isLd=false)-> ∀id,hget (hS base es H0 E k) id=
  (if base<=id/\id-base<k/\E (id-base)=true/\(isAl (es (id-base))).isSome=true then isAl (es (id-base)) else hget H0 id)
 |0,_,id=>by simp [hS]
 |k+1,h,id=>by
  have ih:=yll hb k (fun i hi=>h i (by omega)) id
  simp only [hS]
  by_cases hE:E k=true
  ·rw [if_pos hE]
   have hns:=h k (by omega) hE
   cases hk:es k with
   |store id' ob=>rw [hk] at hns;cases hns
   |app r g ob=>rw [hk] at hns;cases hns
   |ins id n x=>rw [hk] at hns;cases hns
   |alloc r ob=>
    simp only [Ent.eff,hget]
    by_cases e:base+k=id
    ·subst e
     rw [if_pos rfl,if_pos ⟨by omega,by omega,by rw [Nat.add_sub_cancel_left];exact hE,by rw [Nat.add_sub_cancel_left,hk];rfl⟩,Nat.add_sub_cancel_left,hk];rfl
    ·rw [if_neg e,ih]
     by_cases c:base<=id/\id-base<k/\E (id-base)=true/\(isAl (es (id-base))).isSome=true
     ·rw [if_pos c,if_pos ⟨c.1,by omega,c.2.2⟩]
     ·rw [if_neg c,if_neg (fun c'=>c ⟨c'.1,by omega,c'.2.2⟩)]
   |skip=>
    simp only [Ent.eff];rw [ih]
    by_cases c:base<=id/\id-base<k/\E (id-base)=true/\(isAl (es (id-base))).isSome=true
    ·rw [if_pos c,if_pos ⟨c.1,by omega,c.2.2⟩]
    ·rw [if_neg c,if_neg (fun c'=>by
      by_cases e:id-base=k
      ·rw [e,hk] at c';simp [isAl] at c'
      ·exact c ⟨c'.1,by omega,c'.2.2⟩)]
   |quiet r=>
    simp only [Ent.eff];rw [ih]
    by_cases c:base<=id/\id-base<k/\E (id-base)=true/\(isAl (es (id-base))).isSome=true
    ·rw [if_pos c,if_pos ⟨c.1,by omega,c.2.2⟩]
    ·rw [if_neg c,if_neg (fun c'=>by
      by_cases e:id-base=k
      ·rw [e,hk] at c';simp [isAl] at c'
      ·exact c ⟨c'.1,by omega,c'.2.2⟩)]
  ·rw [if_neg hE,ih]
   by_cases c:base<=id/\id-base<k/\E (id-base)=true/\(isAl (es (id-base))).isSome=true
   ·rw [if_pos c,if_pos ⟨c.1,by omega,c.2.2⟩]
   ·rw [if_neg c,if_neg (fun c'=>by
     by_cases e:id-base=k
     ·rw [e] at c';exact hE c'.2.2.1
     ·exact c ⟨c'.1,by omega,c'.2.2⟩)]
def frI (ops:Array Oper) (es:Nat->Ent) (j:Nat) (fr:Fr):Nat->Fr
 |0=>fr
 |d+1=>frI ops es (j+1) (fput fr (yal ops j) (es j).val) d
def hI (base:Nat) (es:Nat->Ent) (j:Nat) (H:Hp):Nat->Hp
 |0=>H
 |d+1=>hI base es (j+1) ((es j).eff (base+j) H) d
theorem ykh {K:Fr->Hp->Prop}: ∀(n j:Nat) (fr:Fr) (H:Hp),j+n<=ops.size->ex.length=ops.size->dl.length=ops.size->awD P N ops base j ((ops.toList.drop j).take n) (ex.drop j) (dl.drop j) fr H K->
  ∃es:Nat->Ent,(∀d,d<n->dok (yal ops (j+d)) N=true/\ ∃fr' H',frI ops es j fr d=fr'/\hI base es j H d=H'/\ydq P ops base ex dl (j+d) (ops.getD (j+d) default) fr' H' (es (j+d)))/\K (frI ops es j fr n) (hI base es j H n)
 |0,j,fr,H,hj,_,_,h=>by
  simp only [List.take_zero,awD] at h
  exact ⟨fun _=> .skip,fun d hd=>by omega,h⟩
 |n+1,j,fr,H,hj,hex,hdl,h=>by
  have hlt:j<ops.size:=by omega
  have hget:ops.getD j default=ops[j]:=by simp [hlt]
  have hx0:ex[j]'(by omega)=exOf ex j:=by simp [exOf,show j<ex.length by omega]
  have hd0:(dl[j]'(by omega)).map (bk base)=dlOf base dl j:=by simp [dlOf,show j<dl.length by omega]
  rw [List.drop_eq_getElem_cons (by simpa using hlt),List.drop_eq_getElem_cons (l:=ex) (by omega),List.drop_eq_getElem_cons (l:=dl) (by omega)] at h
  simp only [List.take_succ_cons,awD,Array.getElem_toList] at h
  have hcons: ∀(e:Ent),dok (ops[j]).dst N=true->ydq P ops base ex dl j ops[j] fr H e->awD P N ops base (j+1) ((ops.toList.drop (j+1)).take n) (ex.drop (j+1)) (dl.drop (j+1)) (fput fr (ops[j]).dst e.val) (e.eff (base+j) H) K->
   ∃es:Nat->Ent,(∀d,d<n+1->dok (yal ops (j+d)) N=true/\ ∃fr' H',frI ops es j fr d=fr'/\hI base es j H d=H'/\ydq P ops base ex dl (j+d) (ops.getD (j+d) default) fr' H' (es (j+d)))/\K (frI ops es j fr (n+1)) (hI base es j H (n+1)):=fun e hdk he hr=>by
   obtain ⟨es,h1,h2⟩:=ykh n (j+1) _ _ (by omega) hex hdl hr
   have hsame: ∀d (fr:Fr) (H:Hp),frI ops (fun i=>if i=j then e else es i) (j+1) fr d=frI ops es (j+1) fr d/\hI base (fun i=>if i=j then e else es i) (j+1) H d=hI base es (j+1) H d:=by
    have gen: ∀d s (fr:Fr) (H:Hp),j<s->frI ops (fun i=>if i=j then e else es i) s fr d=frI ops es s fr d/\hI base (fun i=>if i=j then e else es i) s H d=hI base es s H d:=by
     intro d
     induction d with
     |zero=>intro s fr H _;exact ⟨rfl,rfl⟩
     |succ d ih=>intro s fr H hs;simp only [frI,hI,show s≠j by omega,if_false];exact ih (s+1) _ _ (by omega)
    exact fun d fr H=>gen d (j+1) fr H (by omega)
   have hdst:yal ops j=(ops[j]).dst:=by simp [yal,hlt]
   refine ⟨fun i=>if i=j then e else es i,fun d hd=>?_,?_⟩
   ·cases d with
    |zero=>exact ⟨by rw [Nat.add_zero,hdst];exact hdk,fr,H,rfl,rfl,by simpa [hlt] using he⟩
    |succ d=>
     obtain ⟨g1,fr',H',g2,g3,g4⟩:=h1 d (by omega)
     have ea:j+1+d=j+(d+1):=by omega
     rw [ea] at g1 g4
     refine ⟨g1,fr',H',?_,?_,?_⟩
     ·simp only [frI,if_true,hdst,(hsame d _ H).1];exact g2
     ·simp only [hI,if_true,(hsame d fr _).2];exact g3
     ·simpa [show j+(d+1)≠j by omega] using g4
   ·simp only [frI,hI,if_true,hdst,(hsame n _ H).1,(hsame n fr _).2];exact h2
  have hdo:yfy ops ops[j] (fer (exOf ex j) fr)->awD.awDO P N base j ops[j] (ex[j]'(by omega)) (dl[j]'(by omega)) fr H (fun fr' H'=>awD P N ops base (j+1) ((ops.toList.drop (j+1)).take n) (ex.drop (j+1)) (dl.drop (j+1)) fr' H' K)->
   ∃es:Nat->Ent,(∀d,d<n+1->dok (yal ops (j+d)) N=true/\ ∃fr' H',frI ops es j fr d=fr'/\hI base es j H d=H'/\ydq P ops base ex dl (j+d) (ops.getD (j+d) default) fr' H' (es (j+d)))/\K (frI ops es j fr (n+1)) (hI base es j H (n+1)):=fun hw hq=>by
   unfold awD.awDO at hq
   obtain ⟨hcv,hdk,hq⟩:=hq
   rw [hx0,hd0] at hq
   split at hq
   ·rename_i hsil
    split at hq
    ·rename_i p r hqu
     exact hcons (.quiet r) hdk ⟨hw,hcv, .inl ⟨hsil,p,hqu,hq.1⟩⟩ hq.2
    ·exact hq.elim
   ·rename_i hsil
    have hsil':ycf (ops[j]).op=false:=by simpa using hsil
    split at hq
    ·rename_i p r hqu
     have hl:loud (ops[j]).op=false:=by
      cases hl:loud (ops[j]).op with
      |false=>rfl
      |true=>
       exfalso
       cases ho:(ops[j]).op with
       |store t x y=>rw [ho] at hqu;simp [quF,opF] at hqu
       |insert t m k v=>rw [ho] at hqu;simp [quF,opF] at hqu
       |call c=>
        obtain ⟨callee,args,ts⟩:=c
        rw [ho] at hl hqu
        cases callee with
        |builtin b=>cases b<;>first|(simp [quF,opF] at hqu;done)|(simp [loud] at hl;done)
        |_=>simp [loud] at hl
       |_=>rw [ho] at hl;simp [loud] at hl
     exact hcons (.quiet r) hdk ⟨hw,hcv, .inr ⟨hsil',hl,hq.1, .inl ⟨p,hqu,hq.2.1⟩⟩⟩ hq.2.2
    ·split at hq
     ·rename_i p r ob hal
      have hl:loud (ops[j]).op=false:=by
       cases ho:(ops[j]).op<;>first|rfl|(rw [ho] at hal;simp [alF] at hal)
      exact hcons (.alloc r ob) hdk ⟨hw,hsil',hl, .inl ⟨p,hal,hq.1⟩⟩ hq.2
     ·split at hq
      ·rename_i t x y ho
       split at hq
       ·rename_i p id ob hst
        exact hcons (.store id ob) hdk ⟨hw,hsil',by rw [ho];rfl,t,x,y,p,ho,hst,hq.1⟩ hq.2
       ·exact hq.elim
      ·rename_i t m k v ho
       split at hq
       ·rename_i p id n x hst
        exact hcons (.ins id n x) hdk ⟨hw,hsil',by rw [ho];rfl,t,m,k,v,p,ho,hst,hq.1⟩ hq.2
       ·exact hq.elim
      ·rename_i args ts ho
       split at hq
       ·rename_i s x t t' hargs hts
        obtain ⟨rfl,hq⟩:=hq
        split at hq
        ·rename_i p r g ob hap
         have e1:args= #[s,x]:=by simpa using congrArg List.toArray hargs
         have e2:ts= #[t,t]:=by simpa using congrArg List.toArray hts
         subst e1 e2
         exact hcons (.app r g ob) hdk ⟨hw,hsil',by rw [ho];rfl,s,x,t,p,ho,hap,hq.1⟩ hq.2
        ·exact hq.elim
       ·exact hq.elim
      ·rename_i f args ts ho
       split at hq
       ·rename_i g cap hf
        rcases hq.2 with hqa|⟨es,n,t,l,hIc,hor,hk⟩
        case inr=>exact hcons (.alloc (.sl es (base+j) 0 n) (.cells t l)) hdk ⟨hw,hsil',by rw [ho];rfl, .inr ⟨hk.1,hq.1,f,args,ts,g,cap,ho,hf,es,n,t,l,hIc,hor,rfl,rfl⟩⟩ hk.2
        obtain ⟨r,hr1,hr2⟩:=yui hqa
        exact hcons (.quiet r) hdk ⟨hw,hcv, .inr ⟨hsil',by rw [ho];rfl,hq.1, .inr ⟨f,args,ts,g,cap,ho,hf,hr1⟩⟩⟩ hr2
       ·exact hq.elim
      ·exact hq.elim
  split at h
  ·rename_i hg
   exact hdo (.inl hg) h
  ·rename_i g b hg
   split at h
   ·rename_i c hc
    rw [hx0] at hc
    by_cases hcb:c=b
    ·exact hdo (.inr ⟨g,b,hg,by rw [hc,hcb]⟩) (h.1 hcb)
    ·have hcb':c= !b:=by cases c<;>cases b<;>simp_all
     obtain ⟨hdk,hr⟩:=h.2 hcb'
     exact hcons .skip hdk ⟨g,b,hg, .inl (by rw [hc,hcb'])⟩ hr
   ·rename_i hc
    rw [hx0] at hc
    exact hcons .skip h.1 ⟨g,b,hg, .inr hc⟩ h.2
   ·exact h.elim
end
end Go.Proofs.YtfgbnalnbdhimaaGreatDoor
