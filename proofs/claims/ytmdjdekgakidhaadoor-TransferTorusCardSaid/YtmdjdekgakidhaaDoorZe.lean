/- The author's own program logic: small facts; two objects change their numbers. -/
import Derived.Test.YtmdjdekgakidhaaDoorTy
import Derived.Test.YtmdjdekgakidhaaDoorZc
import Derived.Test.YtmdjdekgakidhaaDoorZd
set_option linter.unusedSimpArgs false
set_option linter.unusedVariables false
namespace Go.Proofs.YtmdjdekgakidhaaDoor
open Go Go.RowKit
theorem y2p {x:AV} (H:Hp) (n:Nat) (h:p1 x=true):snap H (n+1) x=x:=by cases x<;>first|rfl|cases h
theorem yy3 {x:AV} (H:Hp) (n:Nat) (h:p1 x=true):yal H (n+1) x:=by cases x<;>first|trivial|cases h
theorem y4z {x:AV} (H:Hp) (n:Nat) (h:p1 x=true):frzV H (n+1) x=x:=by cases x<;>first|rfl|cases h
theorem y2q {x:AV} (H:Hp) (n:Nat) (h:p1 x=true):frzP H (n+1) x:=by cases x<;>first|trivial|cases h
section
variable {c:List AV} (h:c.all p1=true)
include h
theorem y2r (H:Hp) (n:Nat):c.map (snap H (n+1))=c:=by
 conv=>rhs;rw [←List.map_id c]
 exact List.map_congr_left fun x hx=>y2p H n (List.all_eq_true.1 h x hx)
theorem yy4 (H:Hp) (n:Nat):(∀x∈c,yal H (n+1) x)=True:=eq_true fun x hx=>yy3 H n (List.all_eq_true.1 h x hx)
theorem yvw (H:Hp) (n:Nat):c.map (frzV H (n+1))=c:=by
 conv=>rhs;rw [←List.map_id c]
 exact List.map_congr_left fun x hx=>y4z H n (List.all_eq_true.1 h x hx)
theorem yr3 (H:Hp) (n:Nat):(∀x∈c,frzP H (n+1) x)=True:=eq_true fun x hx=>y2q H n (List.all_eq_true.1 h x hx)
end
end Go.Proofs.YtmdjdekgakidhaaDoor
namespace Go.Proofs.YtmdjdekgakidhaaDoor
open Go Go.RowKit
def swI (i j n:Nat):Nat:=if n=i then j else if n=j then i else n
theorem ydq (i j n:Nat):swI i j (swI i j n)=n:=by
 unfold swI
 by_cases h1:n=i
 ·rw [if_pos h1]
  by_cases h2:j=i
  ·rw [if_pos h2];omega
  ·rw [if_neg h2,if_pos rfl];omega
 ·rw [if_neg h1]
  by_cases h2:n=j
  ·rw [if_pos h2,if_pos rfl];omega
  ·rw [if_neg h2,if_neg h1,if_neg h2]
def swV (i j:Nat):Nat->AV->AV
 |0,x=>if p1 x then x else .any
 |n+1,x=>match x with
  | .sl es id off len=> .sl es (swI i j id) off len
  | .ptr id off=> .ptr (swI i j id) off
  | .mp id=> .mp (swI i j id)
  | .agg xs=> .agg (xs.map (swV i j n))
  | .tup xs=> .tup (xs.map (swV i j n))
  | .fn f xs=> .fn f (xs.map (swV i j n))
  |x=>x
def swO (i j:Nat):AObj->AObj
 | .cells t (.lst l)=> .cells t (.lst (l.map (swV i j 4)))
 | .imap t l=> .imap t (l.map fun q=>(q.1,swV i j 4 q.2))
 | .gmap t ck l=> .gmap t ck (l.map fun q=>(q.1,q.2.1,swV i j 4 q.2.2))
 | .iter m s sn la=> .iter (swI i j m) s sn la
 |o=>o
def swH (i j:Nat):Hp->Hp
 |[]=>[]
 |(k,o)::r=>(swI i j k,swO i j o)::swH i j r
def swF (i j:Nat):Fr->Fr
 |[]=>[]
 |(t,x)::r=>(t,swV i j 4 x)::swF i j r
theorem yh1 (i j:Nat): ∀(H:Hp) (k:Nat),hget (swH i j H) (swI i j k)=(hget H k).map (swO i j)
 |[],k=>rfl
 |(n,o)::r,k=>by
  simp only [swH,hget]
  by_cases e:n=k
  ·subst e;simp
  ·have: ¬swI i j n=swI i j k:=fun h=>e (by have:=congrArg (swI i j) h;rwa [ydq,ydq] at this)
   rw [if_neg this,if_neg e];exact yh1 i j r k
theorem ynu (i j:Nat) (H:Hp) (k:Nat):hget (swH i j H) k=(hget H (swI i j k)).map (swO i j):=by
 have:=yh1 i j H (swI i j k);rwa [ydq] at this
theorem ykr (i j:Nat): ∀(fr:Fr) (t:Nat),fget (swF i j fr) t=swV i j 4 (fget fr t)
 |[],t=>rfl
 |(s,x)::r,t=>by
  simp only [swF,fget]
  split
  ·rfl
  ·exact ykr i j r t
theorem yf1 (i j:Nat) (o:AObj):(swO i j o).live=o.live:=by unfold swO;split<;>rfl
theorem y0h {w:World} {M:Nat->Prop} {ρ ρ':Nat->Addr} {D D':Nat->Prop} {i j:Nat} (hD: ∀k,D k->D' (swI i j k)/\ρ' (swI i j k)=ρ k): ∀(n:Nat) (v:Value) (x:AV),VR w M ρ D v x->VR w M ρ' D' v (swV i j n x):=by
 intro n
 induction n with
 |zero=>
  intro v x hv
  simp only [swV]
  split
  ·rename_i hp;exact hv.pure1 hp
  ·exact .any _
 |succ n ih=>
  intro v x hv
  cases hv with
  |any v=>exact .any _
  |int k m=>exact .int _ _
  |bool b=>exact .bool _
  |str s=>exact .str _
  |nils=>exact .nils
  |mp id hd=>obtain ⟨h1,h2⟩:=hD id hd;simp only [swV];rw [←h2];exact .mp _ h1
  |ro es len c ad cap x hl hc he h0 hv=>exact VR.pure1 (VR.ro (D:=D) es len c ad cap x hl hc he h0 hv) rfl
  |rp c off b x hb hm hj hv=>exact VR.pure1 (VR.rp (D:=D) c off b x hb hm hj hv) rfl
  |ptr id off hd=>obtain ⟨h1,h2⟩:=hD id hd;simp only [swV];rw [←h2];exact .ptr _ _ h1
  |sl es id off len cap hd hc arr t ad ha hb hr=>
   obtain ⟨h1,h2⟩:=hD id hd
   exact .sl es (swI i j id) off len cap h1 hc arr t ad (fun h=>by rw [h2];exact ha h) (by rw [h2];exact hb) (by rw [h2];exact hr)
  |agg vs xs hl hx=>
   simp only [swV]
   refine .agg vs _ (by simp [hl]) fun k u y hu hy=>?_
   simp only [List.getElem?_map] at hy
   obtain ⟨y',g1,rfl⟩:=Option.map_eq_some_iff.1 hy
   exact ih u y' (hx k u y' hu g1)
  |tup vs xs hl hx=>
   simp only [swV]
   refine .tup vs _ (by simp [hl]) fun k u y hu hy=>?_
   simp only [List.getElem?_map] at hy
   obtain ⟨y',g1,rfl⟩:=Option.map_eq_some_iff.1 hy
   exact ih u y' (hx k u y' hu g1)
  |fn f vs xs hl hx=>
   simp only [swV]
   refine .fn f vs _ (by simp [hl]) fun k u y hu hy=>?_
   simp only [List.getElem?_map] at hy
   obtain ⟨y',g1,rfl⟩:=Option.map_eq_some_iff.1 hy
   exact ih u y' (hx k u y' hu g1)
theorem y2s {w:World} {M:Nat->Prop} {ρ ρ':Nat->Addr} {D D':Nat->Prop} {i j:Nat} (hD: ∀k,D k->D' (swI i j k)/\ρ' (swI i j k)=ρ k) {k:Nat} {o:AObj} (hi:D k) (h:ObjR w M ρ D k o):ObjR w M ρ' D' (swI i j k) (swO i j o):=by
 have hr:=y0h (w:=w) (M:=M) (ρ':=ρ') (D':=D') hD
 have he:=(hD k hi).2
 cases o with
 |gone=>trivial
 |cells t c=>
  obtain ⟨e1,arr,e2,e3,e4⟩:=h
  cases c with
  |ints l=>exact ⟨by rw [he];exact e1,arr,by rw [he];exact e2,by rw [he];exact e3,fun j hj=>let ⟨u,hu,hx⟩:=e4 j hj;⟨u,by rw [he];exact hu,hx.pure1 rfl⟩⟩
  |bools l=>exact ⟨by rw [he];exact e1,arr,by rw [he];exact e2,by rw [he];exact e3,fun j hj=>let ⟨u,hu,hx⟩:=e4 j hj;⟨u,by rw [he];exact hu,hx.pure1 rfl⟩⟩
  |lst l=>
   refine ⟨by rw [he];exact e1,arr,by rw [he];exact e2,by rw [he];simpa [swO,Cs.len] using e3,fun n hj=>?_⟩
   simp only [Cs.len,List.length_map] at hj
   obtain ⟨u,hu,hx⟩:=e4 n hj
   refine ⟨u,by rw [he];exact hu,?_⟩
   simp only [Cs.get,List.getD_eq_getElem?_getD,List.getElem?_eq_getElem hj,Option.getD_some] at hx
   have:=hr 4 u _ hx
   simpa [Cs.get,hj] using this
 |fmap t c=>
  obtain ⟨k0,es,ck,k1,k2⟩:=h
  exact ⟨k0,es,ck,by rw [he];exact k1,k2⟩
 |gmap t ck l=>
  obtain ⟨es,k1,k2,k3⟩:=h
  refine ⟨es,by rw [he];exact k1,by simpa using k2,fun j e q h1 h2=>?_⟩
  simp only [List.getElem?_map] at h2
  obtain ⟨q',g1,g2⟩:=Option.map_eq_some_iff.1 h2
  cases g2
  obtain ⟨g3,g4,g5⟩:=k3 j e q' h1 g1
  exact ⟨g3,g4,hr 4 _ _ g5⟩
 |iter mid s sn la=>
  obtain ⟨k1,k2,k3⟩:=h
  obtain ⟨d1,d2⟩:=hD mid k1
  exact ⟨d1,by rw [he];exact k2,by rw [he,d2];exact k3⟩
 |imap t l=>
  obtain ⟨k0,es,ck,k1,k2,k3⟩:=h
  refine ⟨fun k x hx=>?_,es,ck,by rw [he];exact k1,by simpa using k2,fun j e k x h1 h2=>?_⟩
  ·obtain ⟨q,g1,g2⟩:=List.mem_map.1 hx
   cases g2
   have:=k0 q.1 q.2 g1
   cases hq:q.2<;>rw [hq] at this<;>first|(cases this;done)|rfl
  simp only [List.getElem?_map] at h2
  obtain ⟨q,g1,g2⟩:=Option.map_eq_some_iff.1 h2
  cases g2
  obtain ⟨g3,g4,g5⟩:=k3 j e q.1 q.2 h1 g1
  exact ⟨g3,hr 4 _ _ g4,g5⟩
section
variable {B:Nat} {w0:ya4} {Mx:Nat->Prop} {N:Nat} {w:World} {ρ:Nat->Addr} {fr:Fr} {H:Hp} {a:Act}
theorem Sim.swap (h:Sim B w0 Mx N w ρ fr H a) (i j:Nat):Sim B w0 Mx N w (fun k=>ρ (swI i j k)) (swF i j fr) (swH i j H) a:=by
 have hg: ∀k o,hget (swH i j H) k=some o-> ∃o',hget H (swI i j k)=some o'/\o=swO i j o':=fun k o hk=>by
  rw [ynu] at hk
  obtain ⟨o',h1,h2⟩:=Option.map_eq_some_iff.1 hk
  exact ⟨o',h1,h2.symm⟩
 have hM:MM Mx (swH i j H) (fun k=>ρ (swI i j k))=MM Mx H ρ:=by
  funext b
  apply propext
  constructor
  ·rintro (g|⟨id,o,g1,g2,g3⟩)
   ·exact .inl g
   ·obtain ⟨o',k1,rfl⟩:=hg id o g1
    exact .inr ⟨_,o',k1,by rw [yf1] at g2;exact g2,g3⟩
  ·rintro (g|⟨id,o,g1,g2,g3⟩)
   ·exact .inl g
   ·exact .inr ⟨swI i j id,swO i j o,by rw [yh1,g1];rfl,by rw [yf1];exact g2,by show (ρ (swI i j (swI i j id))).block=b;rw [ydq];exact g3⟩
 have hD: ∀k,DD H k->DD (swH i j H) (swI i j k)/\(fun k=>ρ (swI i j k)) (swI i j k)=ρ k:=fun k ⟨o,ho⟩=>⟨⟨swO i j o,by rw [yh1,ho];rfl⟩,by show ρ (swI i j (swI i j k))=ρ k;rw [ydq]⟩
 refine ⟨h.below,h.hB,h.mx,fun id o ho hl=>?_,fun id o ho=>?_,fun id o id' o' ho hl ho' hl' e=>?_,fun t=>?_,h.defers,h.size⟩
 ·obtain ⟨o',k1,rfl⟩:=hg id o ho
  exact h.own _ o' k1 (by rw [yf1] at hl;exact hl)
 ·obtain ⟨o',k1,rfl⟩:=hg id o ho
  have:=y2s (w:=w) (M:=MM Mx H ρ) (ρ':=fun k=>ρ (swI i j k)) hD ⟨o',k1⟩ (h.objs _ o' k1)
  rw [ydq] at this
  rw [hM];exact this
 ·obtain ⟨q,k1,rfl⟩:=hg id o ho
  obtain ⟨q',k1',rfl⟩:=hg id' o' ho'
  have:=h.inj _ q _ q' k1 (by rw [yf1] at hl;exact hl) k1' (by rw [yf1] at hl';exact hl') e
  have:=congrArg (swI i j) this
  rwa [ydq,ydq] at this
 ·rw [hM,ykr]
  exact y0h hD 4 _ _ (h.frv t)
end
theorem Wk.swap (i j:Nat) (fr:Fr) (H:Hp):Wk fr H (swF i j fr) (swH i j H):=fun _ _ _ _ _ ρ _ hs=>⟨fun k=>ρ (swI i j k),hs.swap i j⟩
theorem Wk.subS (i j:Nat) {fr fr' fr1:Fr} {H H' H1:Hp} (e1:swF i j fr'=fr1) (e2:swH i j H'=H1) (e3:swF i j fr1=fr') (e4:swH i j H1=H') (hf:subF fr H1 fr1) (hh:subH H H1 H1):Wk fr H fr' H':=by
 have:=(Wk.sub hf hh).trans (Wk.swap i j fr1 H1)
 rwa [e3,e4] at this
attribute [go_sem] swI swV swO swH swF
end Go.Proofs.YtmdjdekgakidhaaDoor
set_option linter.unusedSimpArgs false
set_option linter.unusedVariables false
namespace Go.Proofs.YtmdjdekgakidhaaDoor
open Go Go.RowKit
set_option maxRecDepth 100000
set_option maxHeartbeats 8000000
abbrev arcF (cnt:Nat) (T:List Nat) (J:List Int) (x:Nat):Nat:=(arcV cnt T J x).toNat
abbrev gluF (glue:List Int) (x:Nat):Int:=glue.getD x 0
theorem y2t (n:Nat):(List.replicate n [AV.int .u8 0]).flatten=(List.replicate n (0:Int)).map (AV.int .u8):=by
 induction n with
 |zero=>rfl
 |succ n ih=>rw [List.replicate_succ,List.flatten_cons,ih,List.replicate_succ];rfl
theorem yvx {ts:List Int} {x:AV} (h:x∈ts.map (AV.int .u8)): ∃n,x= .int .u8 n:=by
 obtain ⟨n,_,rfl⟩:=List.mem_map.1 h;exact ⟨n,rfl⟩
theorem y0i (ts:List Int):(ts.map (AV.int .u8)).all p1=true:=List.all_eq_true.2 fun x hx=>by obtain ⟨n,rfl⟩:=yvx hx;rfl
theorem ydz (H:Hp) (ts:List Int):(ts.map (AV.int .u8)).all (s3 H)=true:=List.all_eq_true.2 fun x hx=>by obtain ⟨n,rfl⟩:=yvx hx;rfl
theorem y40 (H:Hp) (n:Nat) (ts:List Int):(ts.map (AV.int .u8)).map (frzV H (n+1))=ts.map (AV.int .u8):=yvw (y0i ts) H n
theorem y2u (H:Hp) (n:Nat) (ts:List Int):(∀x∈ts.map (AV.int .u8),frzP H (n+1) x)=True:=yr3 (y0i ts) H n
theorem yvy (ts:List Int) (i:Nat) (v:Int):(ts.map (AV.int .u8)).set i (.int .u8 v)=(ts.set i v).map (AV.int .u8):=List.map_set.symm
structure y0j (cnt:Nat) (glue index:List Int) (E:Nat) (T:List Nat) (J:List Int):Prop where
 gl:glue.length=cnt+4
 il:index.length=cnt+4
 hT:T.length=cnt
 hb: ∀i∈T,i<100
 hJ:J.length=4
 hJr: ∀i,0<=J.getD i 0/\J.getD i 0<=3
 hc:cnt<=90
 hE:E<=99
 gr: ∀x,x<cnt+4-> -1<=glue.getD x 0/\glue.getD x 0<cnt+4
 ix: ∀x,x<cnt+4->(0<=glue.getD x 0->index.getD x 0= -1)/\(glue.getD x 0<0->0<=index.getD x 0/\index.getD x 0<E)
 ar: ∀x,x<cnt+4->0<=arcV cnt T J x/\arcV cnt T J x<cnt+4
 hP: ∀k,k<cnt+4->glue.getD k 0<0-> ∃ys e,Pth (arcF cnt T J) (gluF glue) k ys e/\ys.length<=cnt+4
 hC: ∀k,k<cnt+4->0<=glue.getD k 0->(cirN (cnt+4) (arcF cnt T J) (gluF glue) (endN (cnt+4) (arcF cnt T J) (gluF glue) (cnt+4)) k).1.getD k false=false-> ∃zs,Cyc (arcF cnt T J) (gluF glue) (cirN (cnt+4) (arcF cnt T J) (gluF glue) (endN (cnt+4) (arcF cnt T J) (gluF glue) (cnt+4)) k).1 k zs/\zs.length<=cnt+4
theorem Pth.endW {arc:Nat->Nat} {glue:Nat->Int} {W:Nat} (har: ∀x,x<W->arc x<W) (hgr: ∀x,x<W->0<=glue x->(glue x).toNat<W) {u e:Nat} {ys:List Nat} (h:Pth arc glue u ys e):u<W->e<W/\glue e<0:=by
 induction h with
 |nil h=>exact fun hu=>⟨har _ hu,h⟩
 |cons h k ih=>exact fun hu=>ih (hgr _ (har _ hu) h)
theorem yvz (cnt:Nat) (glue index ends:List Int) (T:List Nat) (J:List Int) (h:y0j cnt glue index ends.length T J):
  Fn Tryd.prog 41 [.agg [I cnt,roI glue,roI index,roI ends], .str (pS T), .agg (J.map (AV.int .i64))]
   (.tup [.str (strB (txN (arcF cnt T J) (gluF glue) (fun x=>index.getD x 0) (cnt+4) ends.length (cnt+4))),I (cirN (cnt+4) (arcF cnt T J) (gluF glue) (endN (cnt+4) (arcF cnt T J) (gluF glue) (cnt+4)) (cnt+4)).2]):=by
 obtain ⟨j0,j1,j2,j3,rfl⟩: ∃j0 j1 j2 j3,J=[j0,j1,j2,j3]:=by
  have:=h.hJ
  match J,this with
  |[a,b,c,d],_=>exact ⟨a,b,c,d,rfl⟩
 have hA:=fun x (hx:x<cnt+4)=>y4x cnt x glue index ends T [j0,j1,j2,j3] h.hT h.hb h.hJ h.hJr hx (by have:=h.hc;omega)
 have hAn: ∀x,x<cnt+4->arcV cnt T [j0,j1,j2,j3] x=(arcF cnt T [j0,j1,j2,j3] x:Int)/\arcF cnt T [j0,j1,j2,j3] x<cnt+4:=fun x hx=>by have:=h.ar x hx;unfold arcF;exact ⟨by omega,by omega⟩
 obtain ⟨hgl,hil,_,_,_,_,hc90,hE99,hgr,hix,_,hP,hC⟩:=h
 have hA2: ∀x,x<cnt+4->Fn Tryd.prog 53 [I x, .rp (.lst [I cnt,roI glue,roI index,roI ends]) 0, .rp (.lst [.str (pS T)]) 0, .rp (.lst [I j0,I j1,I j2,I j3]) 0] (I (arcF cnt T [j0,j1,j2,j3] x:Nat)):=fun x hx=>by
  have:=hA x hx
  rw [(hAn x hx).1] at this
  exact this
 have hAl:=fun x hx=>(hAn x hx).2
 clear hA hAn
 generalize arcF cnt T [j0,j1,j2,j3]=arc at*
 have hW94:cnt+4<=94:=by omega
 generalize hWd:cnt+4=W at*
 obtain ⟨S,hS⟩: ∃S,S=Cs.lst [I cnt,roI glue,roI index,roI ends]:=⟨_,rfl⟩
 have hgW: ∀x,x<W->0<=gluF glue x->(gluF glue x).toNat<W/\((gluF glue x).toNat:Int)=gluF glue x:=fun x hx h0=>by
  have:=hgr x hx
  unfold gluF at*
  exact ⟨by omega,by omega⟩
 refine Fn.introL [.tmp 6, .tmp 7] Tryd.func41 rfl rfl (by decide) (by simp [Tryd.ntmps41]) ?_;rw [Tryd.ntmps41]
 repeat' (first|omega|(try apply yaa);simp only [go_sem,sevalprocAttr,y2t,Int.toNat_natCast]|apply yae<;>(intro h_;(try simp only [h_]);revert h_)|apply yad|apply yab|apply gspI|apply And.intro|with_reducible intro h_|trivial|simp only [go_sem,la2];omega)
 refine yak.intro (fun n fr H=> ∃k:Nat,k<=W/\n=W-k/\fr=[(31,I k),(30,I index.length),(29,roI index),(10, .sl 1 4 0 ends.length),(9, .sl 1 3 0 glue.length),(8, .fn 53 [.rp (.lst [I cnt,roI glue,roI index,roI ends]) 0, .rp (.lst [.str (pS T)]) 0, .rp (.lst [I j0,I j1,I j2,I j3]) 0]),(3, .rp (.lst [I cnt,roI glue,roI index,roI ends]) 0)]/\H=[(4, .cells 5 (.lst ((txN arc (gluF glue) (fun x=>index.getD x 0) W ends.length k).map (AV.int .u8)))),(3, .cells 4 (.bools (endN W arc (gluF glue) k)))]) ?_ ?_
 ·refine ⟨_,_,_,?_,0,by omega,rfl,rfl,rfl⟩
  refine Wk.trans (Wk.frz [0,1,2] ?_ ?_ rfl rfl) (Wk.sub ?_ ?_)
  all_goals (simp only [go_sem,sevalprocAttr,txN,endN,hgl,Int.toNat_natCast,ydz,y40,y2u])
 rintro n fr H ⟨k,hk,rfl,rfl,rfl⟩
 have tl:=yea arc (gluF glue) (fun x=>index.getD x 0) W ends.length k
 have sl:=yhz W arc (gluF glue) k
 by_cases hkW:k<W
 ·have bk:decide ((k:Int)<index.length)=true:=by simp;omega
  have hixk:=hix k hkW
  by_cases hg:0<=glue.getD k 0
  ·have h1:=hixk.1 hg
   have b1:decide (index.getD k 0<0)=true:=by rw [decide_eq_true_eq];omega
   have e1:txN arc (gluF glue) (fun x=>index.getD x 0) W ends.length (k+1)=txN arc (gluF glue) (fun x=>index.getD x 0) W ends.length k:=by simp only [txN];rw [if_pos (by omega)]
   have e2:endN W arc (gluF glue) (k+1)=endN W arc (gluF glue) k:=by simp only [endN];rw [if_pos (show 0<=gluF glue k from hg)]
   repeat' (first|omega|(try apply yaa);simp only [go_sem,sevalprocAttr,bk,b1]|apply yae<;>(intro h_;(try simp only [h_]);revert h_)|apply yad|apply yab|apply gspI|apply And.intro|with_reducible intro h_|trivial|simp only [go_sem,la2];omega)
   refine ⟨_,_,_,?_,?_,⟨k+1,by omega,rfl,rfl,rfl⟩⟩
   ·omega
   ·rw [e1,e2]
    refine Wk.sub ?_ ?_<;>(simp only [go_sem,sevalprocAttr,ydz])
  ·have h1:=hixk.2 (by omega)
   have b1:decide (index.getD k 0<0)=false:=by rw [decide_eq_false_iff_not];omega
   obtain ⟨ys,e,hp,hpl⟩:=hP k hkW (by omega)
   have hrun:=yd9 hp (W+1) (endN W arc (gluF glue) k) (by omega)
   have hrun0:=yd9 hp (W+1) [] (by omega)
   obtain ⟨heW,heg⟩:=hp.endW hAl (fun x hx h0=>(hgW x hx h0).1) hkW
   have e1:txN arc (gluF glue) (fun x=>index.getD x 0) W ends.length (k+1)=(txN arc (gluF glue) (fun x=>index.getD x 0) W ends.length k).set (index.getD k 0).toNat (97+index.getD e 0):=by
    simp only [txN];rw [if_neg (by omega),hrun0]
   have e2:endN W arc (gluF glue) (k+1)=ys.foldl (setP (gluF glue)) (endN W arc (gluF glue) k):=by
    simp only [endN];rw [if_neg (show¬0<=gluF glue k from hg),hrun]
   generalize txN arc (gluF glue) (fun x=>index.getD x 0) W ends.length k=ts at*
   generalize endN W arc (gluF glue) k=sn0 at*
   have hAk:=hA2 k hkW
   repeat' (first|omega|(try apply yaa);simp only [go_sem,sevalprocAttr,bk,b1]|apply yae<;>(intro h_;(try simp only [h_]);revert h_)|apply yad|apply yab|apply gspI|apply And.intro|with_reducible intro h_|trivial|simp only [go_sem,la2];omega)
   refine ⟨yaf.fn rfl hAk ?_⟩
   repeat' (first|omega|(try apply yaa);simp only [go_sem,sevalprocAttr,bk,b1]|apply yae<;>(intro h_;(try simp only [h_]);revert h_)|apply yad|apply yab|apply gspI|apply And.intro|with_reducible intro h_|trivial|simp only [go_sem,la2];omega)
   refine yak.intro (fun n fr H=> ∃(u:Nat) (zs:List Nat) (sn:List Bool),n=zs.length/\u<W/\Pth arc (gluF glue) u zs e/\sn.length=W/\zs.foldl (setP (gluF glue)) sn=ys.foldl (setP (gluF glue)) sn0/\fr=[(13,I (arc u:Nat)),(12,I (index.getD k 0)),(31,I k),(30,I index.length),(29,roI index),(10, .sl 1 4 0 ends.length),(9, .sl 1 3 0 glue.length),(8, .fn 53 [.rp (.lst [I cnt,roI glue,roI index,roI ends]) 0, .rp (.lst [.str (pS T)]) 0, .rp (.lst [I j0,I j1,I j2,I j3]) 0]),(3, .rp (.lst [I cnt,roI glue,roI index,roI ends]) 0)]/\H=[(4, .cells 5 (.lst (ts.map (AV.int .u8)))),(3, .cells 4 (.bools sn))]) ?_ ?_
   ·refine ⟨_,_,_,?_,k,ys,sn0,rfl,hkW,hp,sl,rfl,rfl,rfl⟩
    refine Wk.sub ?_ ?_<;>(simp only [go_sem,sevalprocAttr,ydz])
   rintro n fr H ⟨u,zs,sn,rfl,hu,hpz,hsl,hfold,rfl,rfl⟩
   have hau:=hAl u hu
   cases hpz with
   |nil hn=>
    have b2:decide (0<=glue.getD (arc u) 0)=false:=by have:gluF glue (arc u)=glue.getD (arc u) 0:=rfl;rw [decide_eq_false_iff_not];omega
    have hie:=(hix (arc u) hau).2 hn
    have w1:IntKind.u8.wrap (97+index.getD (arc u) 0)=97+index.getD (arc u) 0:=IntWalk.u8_in _ (by omega)
    simp only [List.foldl_nil] at hfold
    rw [←hfold] at e2
    repeat' (first|omega|(try apply yaa);simp only [go_sem,sevalprocAttr,b2,w1,yvy,List.length_map,Int.toNat_natCast]|apply yae<;>(intro h_;(try simp only [h_]);revert h_)|apply yad|apply yab|apply gspI|apply And.intro|with_reducible intro h_|trivial|simp only [go_sem,la2];omega)
    refine ⟨_,_,_,?_,?_,⟨k+1,by omega,rfl,rfl,rfl⟩⟩
    ·omega
    ·rw [e1,e2]
     refine Wk.sub ?_ ?_<;>(simp only [go_sem,sevalprocAttr,ydz,yvy])
   | @cons _ _ ys' hc hk2=>
     obtain ⟨zW,ze⟩:=hgW (arc u) hau hc
     have b2:decide (0<=glue.getD (arc u) 0)=true:=by have:gluF glue (arc u)=glue.getD (arc u) 0:=rfl;rw [decide_eq_true_eq];omega
     have hz:glue.getD (arc u) 0=((gluF glue (arc u)).toNat:Int):=ze.symm
     have hAz:=hA2 _ zW
     rw [List.foldl_cons] at hfold
     have hsp:setP (gluF glue) sn (arc u)=(sn.set (arc u) true).set (gluF glue (arc u)).toNat true:=rfl
     generalize (gluF glue (arc u)).toNat=z at*
     repeat' (first|omega|(try apply yaa);simp only [go_sem,sevalprocAttr,b2,hz,List.length_set,Int.toNat_natCast]|apply yae<;>(intro h_;(try simp only [h_]);revert h_)|apply yad|apply yab|apply gspI|apply And.intro|with_reducible intro h_|trivial|simp only [go_sem,la2];omega)
     refine ⟨yaf.fn rfl hAz ?_⟩
     repeat' (first|omega|(try apply yaa);simp only [go_sem,sevalprocAttr,b2,hz]|apply yae<;>(intro h_;(try simp only [h_]);revert h_)|apply yad|apply yab|apply gspI|apply And.intro|with_reducible intro h_|trivial|simp only [go_sem,la2];omega)
     refine ⟨_,_,_,?_,?_,z,ys',_,rfl,zW,hk2,?_,hfold,rfl,rfl⟩
     ·simp
     ·rw [hsp]
      refine Wk.sub ?_ ?_<;>(simp only [go_sem,sevalprocAttr,ydz])
     ·rw [yhw];exact hsl
 obtain rfl:k=W:=by omega
 have bk:decide ((k:Int)<index.length)=false:=by simp;omega
 generalize hts:txN arc (gluF glue) (fun x=>index.getD x 0) k ends.length k=ts at*
 have hcl:=fun j=>yh0 k arc (gluF glue) (endN k arc (gluF glue) k) j
 have hcle:=fun j=>ymw k arc (gluF glue) (endN k arc (gluF glue) k) j
 have hc0:cirN k arc (gluF glue) (endN k arc (gluF glue) k) 0=(endN k arc (gluF glue) k,0):=rfl
 have hcs: ∀j,cirN k arc (gluF glue) (endN k arc (gluF glue) k) (j+1)=if gluF glue j<0\/(cirN k arc (gluF glue) (endN k arc (gluF glue) k) j).1.getD j false=true then cirN k arc (gluF glue) (endN k arc (gluF glue) k) j else (cycN arc (gluF glue) (k+1) (cirN k arc (gluF glue) (endN k arc (gluF glue) k) j).1 j,(cirN k arc (gluF glue) (endN k arc (gluF glue) k) j).2+1):=fun j=>rfl
 generalize cirN k arc (gluF glue) (endN k arc (gluF glue) k)=C at*
 generalize endN k arc (gluF glue) k=sn0 at*
 have hbi:ts.length=ends.length:=tl
 repeat' (first|omega|(try apply yaa);simp only [go_sem,sevalprocAttr,bk]|apply yae<;>(intro h_;(try simp only [h_]);revert h_)|apply yad|apply yab|apply gspI|apply And.intro|with_reducible intro h_|trivial|simp only [go_sem,la2];omega)
 refine yak.intro (fun n fr H=> ∃j:Nat,j<=k/\n=k-j/\fr=[(75,I j),(74,I glue.length),(73,roI glue),(15,I (C j).2),(10, .sl 1 4 0 ends.length),(9, .sl 1 3 0 glue.length),(8, .fn 53 [.rp (.lst [I cnt,roI glue,roI index,roI ends]) 0, .rp (.lst [.str (pS T)]) 0, .rp (.lst [I j0,I j1,I j2,I j3]) 0]),(3, .rp (.lst [I cnt,roI glue,roI index,roI ends]) 0)]/\H=[(4, .cells 5 (.lst (ts.map (AV.int .u8)))),(3, .cells 4 (.bools (C j).1))]) ?_ ?_
 ·refine ⟨_,_,_,?_,0,by omega,rfl,rfl,rfl⟩
  rw [hc0]
  refine Wk.sub ?_ ?_<;>(simp only [go_sem,sevalprocAttr,ydz])
 rintro n fr H ⟨j,hj,rfl,rfl,rfl⟩
 by_cases hjk:j<k
 ·have bj:decide ((j:Int)<glue.length)=true:=by simp;omega
  have hl:=hcl j
  have hle:=hcle j
  have hs:=hcs j
  have hCj:=hC j hjk
  generalize hCe:C j=C0 at*
  obtain ⟨sn,c⟩:=C0
  simp only at hl hle hs hCj
  by_cases hg:glue.getD j 0<0
  ·have b1:decide (glue.getD j 0<0)=true:=by rw [decide_eq_true_eq];exact hg
   rw [if_pos (.inl hg)] at hs
   repeat' (first|omega|(try apply yaa);simp only [go_sem,sevalprocAttr,bj,b1]|apply yae<;>(intro h_;(try simp only [h_]);revert h_)|apply yad|apply yab|apply gspI|apply And.intro|with_reducible intro h_|trivial|simp only [go_sem,la2];omega)
   refine ⟨_,_,_,?_,?_,⟨j+1,by omega,rfl,rfl,rfl⟩⟩
   ·omega
   ·rw [hs]
    refine Wk.sub ?_ ?_<;>(simp only [go_sem,sevalprocAttr,ydz])
  ·have b1:decide (glue.getD j 0<0)=false:=by rw [decide_eq_false_iff_not];exact hg
   cases hsj:sn.getD j false with
   |true=>
    rw [if_pos (.inr hsj)] at hs
    repeat' (first|omega|(try apply yaa);simp only [go_sem,sevalprocAttr,bj,b1,hsj]|apply yae<;>(intro h_;(try simp only [h_]);revert h_)|apply yad|apply yab|apply gspI|apply And.intro|with_reducible intro h_|trivial|simp only [go_sem,la2];omega)
    refine ⟨_,_,_,?_,?_,⟨j+1,by omega,rfl,rfl,rfl⟩⟩
    ·omega
    ·rw [hs]
     refine Wk.sub ?_ ?_<;>(simp only [go_sem,sevalprocAttr,ydz])
   |false=>
    rw [if_neg (by rw [hsj];simp;exact Int.not_lt.1 hg)] at hs
    obtain ⟨zs,hcy,hzl⟩:=hCj (Int.not_lt.1 hg) hsj
    have hcr:=ypn hcy (k+1) (by omega)
    rw [hcr] at hs
    repeat' (first|omega|(try apply yaa);simp only [go_sem,sevalprocAttr,bj,b1,hsj]|apply yae<;>(intro h_;(try simp only [h_]);revert h_)|apply yad|apply yab|apply gspI|apply And.intro|with_reducible intro h_|trivial|simp only [go_sem,la2];omega)
    refine yak.intro (fun n fr H=> ∃(z:Nat) (zs':List Nat) (s1:List Bool),n=zs'.length/\z<k/\Cyc arc (gluF glue) s1 z zs'/\s1.length=k/\zs'.foldl (setP (gluF glue)) s1=zs.foldl (setP (gluF glue)) sn/\fr=[(18,I z),(75,I j),(74,I glue.length),(73,roI glue),(15,I ((c:Int)+1)),(10, .sl 1 4 0 ends.length),(9, .sl 1 3 0 glue.length),(8, .fn 53 [.rp (.lst [I cnt,roI glue,roI index,roI ends]) 0, .rp (.lst [.str (pS T)]) 0, .rp (.lst [I j0,I j1,I j2,I j3]) 0]),(3, .rp (.lst [I cnt,roI glue,roI index,roI ends]) 0)]/\H=[(4, .cells 5 (.lst (ts.map (AV.int .u8)))),(3, .cells 4 (.bools s1))]) ?_ ?_
    ·refine ⟨_,_,_,?_,j,zs,sn,rfl,hjk,hcy,by omega,rfl,rfl,rfl⟩
     refine Wk.sub ?_ ?_<;>(simp only [go_sem,sevalprocAttr,ydz])
    rintro n fr H ⟨z,zs',s1,rfl,hz,hcz,hsl1,hfold,rfl,rfl⟩
    cases hcz with
    |stop hst=>
     simp only [List.foldl_nil] at hfold
     repeat' (first|omega|(try apply yaa);simp only [go_sem,sevalprocAttr,hst]|apply yae<;>(intro h_;(try simp only [h_]);revert h_)|apply yad|apply yab|apply gspI|apply And.intro|with_reducible intro h_|trivial|simp only [go_sem,la2];omega)
     refine ⟨_,_,_,?_,?_,⟨j+1,by omega,rfl,rfl,rfl⟩⟩
     ·omega
     ·rw [hs,hfold]
      have ec:((c+1:Nat):Int)=(c:Int)+1:=by omega
      refine Wk.sub ?_ ?_<;>(simp only [go_sem,sevalprocAttr,ydz,ec])
    | @step _ _ zs2 hst hgz hk2=>
      obtain ⟨gW,ge⟩:=hgW z hz hgz
      have hgz2:glue.getD z 0=((gluF glue z).toNat:Int):=ge.symm
      have hAz:=hA2 _ gW
      rw [List.foldl_cons] at hfold
      have hsp:setP (gluF glue) s1 z=(s1.set z true).set (gluF glue z).toNat true:=rfl
      have haz:=hAl _ gW
      generalize (gluF glue z).toNat=y at*
      repeat' (first|omega|(try apply yaa);simp only [go_sem,sevalprocAttr,hst,hgz2,List.length_set,Int.toNat_natCast]|apply yae<;>(intro h_;(try simp only [h_]);revert h_)|apply yad|apply yab|apply gspI|apply And.intro|with_reducible intro h_|trivial|simp only [go_sem,la2];omega)
      refine ⟨yaf.fn rfl hAz ?_⟩
      repeat' (first|omega|(try apply yaa);simp only [go_sem,sevalprocAttr,hst,hgz2]|apply yae<;>(intro h_;(try simp only [h_]);revert h_)|apply yad|apply yab|apply gspI|apply And.intro|with_reducible intro h_|trivial|simp only [go_sem,la2];omega)
      refine ⟨_,_,_,?_,?_,arc y,zs2,_,rfl,haz,hk2,?_,hfold,rfl,rfl⟩
      ·simp
      ·rw [hsp]
       refine Wk.sub ?_ ?_<;>(simp only [go_sem,sevalprocAttr,ydz])
      ·rw [yhw];exact hsl1
 ·obtain rfl:j=k:=by omega
  have bj:decide ((j:Int)<glue.length)=false:=by simp;omega
  have hle:=hcle j
  generalize (C j).1=snf at*
  generalize (C j).2=cf at*
  repeat' (first|omega|(try apply yaa);simp only [go_sem,sevalprocAttr,bj]|apply yae<;>(intro h_;(try simp only [h_]);revert h_)|apply yad|apply yab|apply gspI|apply And.intro|with_reducible intro h_|trivial|simp only [go_sem,la2];omega)
  refine SpL.b2s (e:=5) (ts:=ts) (t:=5) rfl rfl (by simp only [go_sem,sevalprocAttr]) (by simp only [go_sem,sevalprocAttr]) (by simp only [go_sem,sevalprocAttr]) (by rw [hbi];rfl) rfl ?_
  repeat' (first|omega|(try apply yaa);simp only [go_sem,sevalprocAttr]|apply yae<;>(intro h_;(try simp only [h_]);revert h_)|apply yad|apply yab|apply gspI|apply And.intro|with_reducible intro h_|trivial|simp only [go_sem,la2];omega)
  all_goals exact LeA.refl _
end Go.Proofs.YtmdjdekgakidhaaDoor
set_option linter.unusedSimpArgs false
set_option linter.unusedVariables false
namespace Go.Proofs.YtmdjdekgakidhaaDoor
def hvL (ends:List Int) (c:Int):List Int:=ends++[4*c,4*c+1,4*c+2,4*c+3]
theorem yb3 (ends:List Int) (c:Int):(hvL ends c).length=ends.length+4:=by simp [hvL]
def ndF (hs:List Int):Nat->Int->Option Int
 |0=>fun _=>none
 |k+1=>fun h=>if h=hs.getD k 0 then some (k:Int) else ndF hs k h
def glO (hs m:List Int) (x:Nat):Option Int:=ndF hs hs.length (m.getD (hs.getD x 0).toNat 0)
def endS (hs m:List Int):Nat->List Int
 |0=>[]
 |k+1=>if (glO hs m k).isSome then endS hs m k else endS hs m k++[hs.getD k 0]
def glS (hs m:List Int) (x:Nat):Int:=(glO hs m x).getD (-1)
def idS (hs m:List Int) (x:Nat):Int:=if (glO hs m x).isSome then-1 else (endS hs m x).length
def rowK (f:Nat->Int) (W k:Nat):List Int:=(List.range W).map fun x=>if x<k then f x else 0
theorem yf2 (f:Nat->Int) (W k:Nat):(rowK f W k).length=W:=by simp [rowK]
theorem yv0 (f:Nat->Int) (W:Nat):rowK f W 0=List.replicate W 0:=by
 apply List.ext_getElem?
 intro i
 by_cases h:i<W<;>simp [rowK,h]
theorem ypq (f:Nat->Int) (W k:Nat) (h:k<W):(rowK f W k).set k (f k)=rowK f W (k+1):=by
 apply List.ext_getElem?
 intro i
 rw [List.getElem?_set,yf2]
 by_cases e:k=i
 ·subst e;simp [rowK,h]
 ·rw [if_neg e]
  by_cases hi:i<W
  ·simp only [rowK,List.getElem?_map,List.getElem?_range hi,Option.map_some]
   by_cases h2:i<k
   ·rw [if_pos h2,if_pos (by omega)]
   ·rw [if_neg h2,if_neg (by omega)]
  ·simp [rowK,hi]
theorem ypr (f:Nat->Int) (W x:Nat) (h:x<W):(rowK f W W).getD x 0=f x:=by
 simp [rowK,List.getD_eq_getElem?_getD,h]
theorem yks (hs m:List Int): ∀k,(endS hs m k).length<=k
 |0=>Nat.le_refl _
 |k+1=>by
  have:=yks hs m k
  simp only [endS]
  split
  ·omega
  ·simp;omega
end Go.Proofs.YtmdjdekgakidhaaDoor
