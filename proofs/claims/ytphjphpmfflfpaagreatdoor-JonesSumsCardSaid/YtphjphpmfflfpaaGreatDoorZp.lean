/- Layer 12: the text of a polynomial, as a contract. -/
import Derived.Test.YtphjphpmfflfpaaGreatDoorTx3
import Derived.Test.YtphjphpmfflfpaaGreatDoorZb
import Derived.Test.YtphjphpmfflfpaaGreatDoorZo
import Derived.Test.YtphjphpmfflfpaaGreatDoorZj
set_option linter.unusedSimpArgs false
set_option linter.unusedVariables false
namespace Go.Proofs.YtphjphpmfflfpaaGreatDoor
open Go Go.RowKit
set_option maxRecDepth 100000
set_option maxHeartbeats 4000000
def FK (p:List (Int×Int)):Prop:= ∀k,k<p.length-> -4611686018427387904<=(p.getD k (0,0)).1/\(p.getD k (0,0)).1<=4611686018427387904/\ -4611686018427387904<=(p.getD k (0,0)).2/\(p.getD k (0,0)).2<=4611686018427387904
def mN (name:List UInt8) (p:List (Int×Int)):List UInt8:=if p.length=0 then [48] else txtN name p p.length
theorem OG (name:ByteArray):Fn Tryz.prog 28 [plA false [], .str name] (.str ⟨#[48]⟩):=by
 refine Fn.intro [.tmp 4] Tryz.func28 rfl rfl (by decide) (by simp [Tryz.ntmps28]) ?_;rw [Tryz.ntmps28]
 repeat' (first|omega|(try apply ag);simp only [go_sem,sevalprocAttr]|apply ah<;>(intro h_;(try simp only [h_]);revert h_)|apply ai|apply aj|apply ae|apply And.intro|with_reducible intro h_|trivial|simp only [go_sem,ak];omega)
theorem OE (p:List (Int×Int)) (name:ByteArray) (lf:0<p.length) (hr:FK p) (hn:name.size<=1000) (lI:p.length<=1000000):
  Fn Tryz.prog 28 [plA false p, .str name] (.str ⟨(txtN name.data.toList p p.length).toArray⟩):=by
 refine ⟨⟨_,Tryz.func28,rfl,by decide⟩,fun w Mx vs fY hl hv=>?_⟩
 match vs,hl with
 |[v0,v1],_=>
  have h0:=hv 0 v0 _ rfl rfl;have h1:=(hv 1 v1 _ rfl rfl).cG;subst h1;obtain ⟨us,rfl,yf,hu⟩:=h0.bp
  match us,yf with
  |[u0,u1],_=>
   have k0:=(hu 0 u0 _ rfl rfl).bool_inv;have k1:=hu 1 u1 _ rfl rfl;subst k0;cases k1 with
   |ro _ _ _ ad cap x hlen jO _ fB hx=>
    obtain ⟨a,rfl,hb,_,hj⟩:=fB lf;have bO:(Cs.lst (dw p)).len=2*p.length:=ybn p;refine (Z3 p name a cap w lf fY.1 hb (fun k hk=>?_) hr hn lI).mono ?_
    ·have e0:=hx (k*2) (by omega);have e1:=hx (k*2+1) (by omega);rw [show (Cs.lst (dw p)).get (k*2)=(dw p).getD (k*2) .any from rfl,l7 p k hk] at e0;rw [show (Cs.lst (dw p)).get (k*2+1)=(dw p).getD (k*2+1) .any from rfl,qt p k hk] at e1;refine ⟨?_,?_⟩
     ·rw [hj _ (by omega),e0.av]
     ·rw [hj _ (by omega),e1.av]
    ·rintro e w' ⟨rfl,my⟩;exact ⟨_,rfl,my, .str _⟩
theorem VX (p:List (Int×Int)) (name:ByteArray) (hr:FK p) (hn:name.size<=1000) (lI:p.length<=1000000):
  Fn Tryz.prog 28 [plA false p, .str name] (.str ⟨(mN name.data.toList p).toArray⟩):=by
 unfold mN
 split
 ·obtain rfl:p=[]:=List.eq_nil_of_length_eq_zero (by assumption);exact OG name
 ·exact OE p name (by omega) hr hn lI
end Go.Proofs.YtphjphpmfflfpaaGreatDoor
namespace Go.Proofs.YtphjphpmfflfpaaGreatDoor
open Go Go.RowKit Go.Shelf
set_option maxRecDepth 100000
set_option maxHeartbeats 8000000
theorem VR.on {w W:World} {Mx:Nat->Prop} {v:Value} {x:AV} (h:VR w Mx ρ0 (fun _=>False) v x) (hb:Below w.heap.size w W):VR W Mx ρ0 (fun _=>False) v x:=
 h.carry hb.size (fun b aG hm=>⟨hb.block b aG,hm⟩) (fun _ h=>h.elim)
theorem oT.on {w W:World} {Mx:Nat->Prop} (h:oT w Mx) (hb:Below w.heap.size w W):oT W Mx:=⟨h.1.later hb,fun b hm=>by have:=h.2 b hm;have:=hb.size;omega⟩
theorem Fn.c1 {P:Program} {f:Nat} {x r:AV} (h:Fn P f [x] r) {w:World} {Mx:Nat->Prop} (hM:oT w Mx) {v:Value} (hv:VR w Mx ρ0 (fun _=>False) v x):
  Calls P f #[v] w fun e w'=> ∃v',e= .returned v'/\Below w.heap.size w w'/\VR w' Mx ρ0 (fun _=>False) v' r:=
 h.2 w Mx [v] hM rfl fun i u y hu hy=>by
  match i,hu,hy with
  |0,hu,hy=>cases hu;cases hy;exact hv
theorem Fn.c2 {P:Program} {f:Nat} {x y r:AV} (h:Fn P f [x,y] r) {w:World} {Mx:Nat->Prop} (hM:oT w Mx) {v u:Value} (hv:VR w Mx ρ0 (fun _=>False) v x) (hu:VR w Mx ρ0 (fun _=>False) u y):
  Calls P f #[v,u] w fun e w'=> ∃v',e= .returned v'/\Below w.heap.size w w'/\VR w' Mx ρ0 (fun _=>False) v' r:=
 h.2 w Mx [v,u] hM rfl fun i u' y EB hy=>by
  match i,EB,hy with
  |0,EB,hy=>cases EB;cases hy;exact hv
  |1,EB,hy=>cases EB;cases hy;exact hu
theorem VR.uz {w:World} {Mx:Nat->Prop} {v:Value} {s m:List Int} {L:Int} (h:VR w Mx ρ0 (fun _=>False) v (dgA s m L)): ∃a n k b n' k',v= .agg #[.slice a n k, .slice b n' k', .int .i64 L]:=by
 obtain ⟨us,rfl,yf,hu⟩:=h.bp
 match us,yf,hu with
 |[a,b,c],_,hu=>
  have h0:=hu 0 a _ rfl rfl;have h1:=hu 1 b _ rfl rfl;have h2:=(hu 2 c _ rfl rfl).av;subst h2;cases h0;cases h1;exact ⟨_,_,_,_,_,_,rfl⟩
theorem VR.mT {w:World} {Mx:Nat->Prop} {v:Value} {b:Bool} {p:List (Int×Int)} (h:VR w Mx ρ0 (fun _=>False) v (plA b p)): ∃a n k,v= .agg #[.bool b, .slice a n k]:=by
 obtain ⟨us,rfl,yf,hu⟩:=h.bp
 match us,yf,hu with
 |[a,c],_,hu=>
  have h0:=(hu 0 a _ rfl rfl).bool_inv;have h1:=hu 1 c _ rfl rfl;subst h0;cases h1;exact ⟨_,_,_,rfl⟩
theorem VR.oc {w:World} {Mx:Nat->Prop} {v:Value} {x y:AV} (h:VR w Mx ρ0 (fun _=>False) v (.tup [x,y])): ∃a b,v= .tuple #[a,b]/\VR w Mx ρ0 (fun _=>False) a x/\VR w Mx ρ0 (fun _=>False) b y:=by
 obtain ⟨us,rfl,yf,hu⟩:=h.dY
 match us,yf,hu with
 |[a,c],_,hu=>exact ⟨a,c,rfl,hu 0 a _ rfl rfl,hu 1 c _ rfl rfl⟩
theorem Z2 (w:World):Lib.IsBuilderF 93 5 w.heap.size w.heap.size (Lib.byteCells []) (w.alloc (.cells #[.pointer none, .slice none 0 0] 93)):=by
 have e2:=Dg w (.cells #[.pointer none, .slice none 0 0] 93);exact .inl ⟨by omega, .slice none 0 0,e2,⟨rfl, .inl ⟨rfl,rfl⟩⟩,by simp [Value.ownBlock]⟩
structure JW (w:World) (d:Array Value) (W1:World) (pv:Array Value) (acc:List UInt8) (W:World):Prop where
 b0:Below w.heap.size w W
 c0:Below (w.heap.size+1) (w.alloc (.cells d 24)) W
 c1:Below (W1.heap.size+1) (W1.alloc (.cells pv 29)) W
 bl:Lib.IsBuilderF 93 5 (W1.heap.size+1) (W1.heap.size+1) (Lib.byteCells acc) W
section
variable {w W1 W W':World} {d pv:Array Value} {acc:List UInt8}
theorem w9 (w:World) (o:Obj):(w.alloc o).heap.size=w.heap.size+1:=by show (w.heap.push o).size=_;simp
theorem JW.start (gZ:Below (w.alloc (.cells d 24)).heap.size (w.alloc (.cells d 24)) W1):JW w d W1 pv [] ((W1.alloc (.cells pv 29)).alloc (.cells #[.pointer none, .slice none 0 0] 93)):=by
 have h1:=Z2 (W1.alloc (.cells pv 29));have s0:=w9 w (.cells d 24);have s1:=w9 W1 (.cells pv 29);have z1:=gZ.size;rw [s1] at h1;rw [s0] at gZ z1;have hA:Below (w.heap.size+1) (w.alloc (.cells d 24)) ((W1.alloc (.cells pv 29)).alloc (.cells #[.pointer none, .slice none 0 0] 93)):=(gZ.alloc (by omega) _).alloc (by rw [s1];omega) _
 have hw:Below w.heap.size w (w.alloc (.cells d 24)):=(Below.refl _ w).alloc (Nat.le_refl _) _;refine ⟨?_,hA,?_,h1⟩
 ·exact hw.trans ⟨hA.os,hA.tape,hA.output,hA.size,fun j hj=>hA.block j (by omega)⟩
 ·have:=(Below.refl (W1.heap.size+1) (W1.alloc (.cells pv 29))).alloc (o:= .cells #[.pointer none, .slice none 0 0] 93) (by rw [s1];omega)
  exact this
theorem JW.more (h:JW w d W1 pv acc W) (hb:Below W.heap.size W W'):JW w d W1 pv acc W':=by
 have k: ∀{B:Nat} {u:World},Below B u W->B<=u.heap.size->Below B u W':=fun {B u} g hB=>g.trans ⟨hb.os,hb.tape,hb.output,hb.size,fun j hj=>hb.block j (by have:=g.size;omega)⟩;have s0:=w9 w (.cells d 24);have s1:=w9 W1 (.cells pv 29);exact ⟨k h.b0 (Nat.le_refl _),k h.c0 (by omega),k h.c1 (by omega),Tw h.bl hb⟩
theorem JW.str (h:JW w d W1 pv acc W) (hw:w.heap.size<=W1.heap.size) (s:ByteArray) (hl:acc.length<=100000000000) (hs:s.size<=100000000):
  Calls Tryz.prog 74 #[.pointer (some ⟨W1.heap.size+1,0,none⟩), .string s] W fun r W'=>r= .returned (.tuple #[.int .i64 s.size, .nilIface])/\JW w d W1 pv (acc++s.data.toList) W':=by
 have s1:=w9 W1 (.cells pv 29);refine (VY (W1.heap.size+1) (W1.heap.size+1) _ s W h.bl (by rw [Lib.byteCells_length];omega) (by have:=h.c1.size;omega)).mono ?_;rintro r W' ⟨rfl,h1,h2,h3⟩;have k: ∀{B:Nat} {u:World},Below B u W->B<=W1.heap.size+1->Below B u W':=fun {B u} g hB=>g.trans ⟨h2.os,h2.tape,h2.output,h2.size,fun j hj=>h2.block j (by omega)⟩
 exact ⟨rfl,k h.b0 (by omega),k h.c0 (by omega),k h.c1 (Nat.le_refl _),by rw [Lib.byteCells_append];exact .inr h1⟩
theorem JW.string (h:JW w d W1 pv acc W) (hw:w.heap.size<=W1.heap.size):Calls Tryz.prog 77 #[.pointer (some ⟨W1.heap.size+1,0,none⟩)] W fun r W'=>r= .returned (.string ⟨acc.toArray⟩)/\Below w.heap.size w W':=by
 have s1:=w9 W1 (.cells pv 29);refine (Tryz.Builder_String_any_k (W1.heap.size+1) (W1.heap.size+1) acc W h.bl (by have:=h.c1.size;omega)).mono ?_;rintro r W' ⟨rfl,_,h2,_⟩;exact ⟨rfl,h.b0.trans ⟨h2.os,h2.tape,h2.output,h2.size,fun j hj=>h2.block j (by omega)⟩⟩
theorem JW.b1 (h:JW w d W1 pv acc W):Below W1.heap.size W1 W:=
 ((Below.refl W1.heap.size W1).alloc (o:= .cells pv 29) (Nat.le_refl _)).trans ⟨h.c1.os,h.c1.tape,h.c1.output,h.c1.size,fun j hj=>h.c1.block j (by omega)⟩
theorem JW.cd (h:JW w d W1 pv acc W) {i:Nat} {v:Value} (hi:d[i]?=some v):W.cell? ⟨w.heap.size,i,none⟩=some v:=by
 rw [h.c0.cell (by show w.heap.size<_;omega),Lib.cell_of_heap (Dg w _)];exact hi
theorem JW.cp (h:JW w d W1 pv acc W) {i:Nat} {v:Value} (hi:pv[i]?=some v):W.cell? ⟨W1.heap.size,i,none⟩=some v:=by
 rw [h.c1.cell (by show W1.heap.size<_;omega),Lib.cell_of_heap (Dg W1 _)];exact hi
end
theorem Z1 (s m:List Int) (L C:Int) (q r:List (Int×Int)) (tx:ByteArray) (hC:Fn Tryz.prog 24 [dgA s m L] (.tup [plA false q,I 0])) (hK:Fn Tryz.prog 42 [dgA s m L] (I C)) (h1:C.tmod 2=1)
  (hT:Fn Tryz.prog 72 [plA false q, .fn 75 []] (plA false r)) (hX:Fn Tryz.prog 28 [plA false r, .str ⟨#[116]⟩] (.str tx)) (yg:tx.size<=100000000):
  Fn Tryz.prog 25 [dgA s m L] (.tup [.str tx,I 0]):=by
 refine ⟨⟨_,Tryz.func25,rfl,by decide⟩,fun w Mx vs fY hl hv=>?_⟩
 match vs,hl with
 |[v0],_=>
  have h0:=hv 0 v0 _ rfl rfl;obtain ⟨a,n,k,b,n',k',rfl⟩:=h0.uz;have Fm:Below w.heap.size w (w.alloc (.cells #[.slice a n k, .slice b n' k', .int .i64 L] 24)):=(Below.refl _ w).alloc (Nat.le_refl _) _;have h1b:(C.tmod 2==1)=true:=by simpa using h1
  show Calls Tryz.prog 25 #[.agg #[.slice a n k, .slice b n' k', .int .i64 L]] w _
  go_enter Tryz.func25,Tryz.ntmps25
  go_wp2_with (go_at_call 24;refine (hC.c1 (fY.on Fm) (h0.on Fm)).mono ?_)
  rintro e W1 ⟨v1,rfl,gZ,hv1⟩;obtain ⟨vp,ve,rfl,hp,he⟩:=hv1.oc
  have:=he.av
  subst this;obtain ⟨pa,pn,pk,rfl⟩:=hp.mT;have hJ:=JW.start (pv:= #[.bool false, .slice pa pn pk]) gZ;have hz:w.heap.size<=W1.heap.size:=by have:=gZ.size;rw [w9] at this;omega
  have d0:=hJ.cd (i:=0) rfl;have d1:=hJ.cd (i:=1) rfl;have d2:=hJ.cd (i:=2) rfl
  go_wp2_with (go_at_call 42;refine (hK.c1 (fY.on hJ.b0) (h0.on hJ.b0)).mono ?_)
  rintro e W3 ⟨v3,rfl,Fo,hv3⟩
  have:=hv3.av
  subst this;have wY:=hJ.more Fo;have p0:=wY.cp (i:=0) rfl;have p1:=wY.cp (i:=1) rfl;clear d0 d1 d2
  go_wp2_with (go_at_call 72;refine (hT.c2 (fY.on wY.b0) (hp.on wY.b1) (VR.fn _ [] [] rfl (fun i u x hu=>by simp at hu))).mono ?_)
  rintro e W4 ⟨v4,rfl,Ql,Cj⟩;obtain ⟨ra,rn,rk,rfl⟩:=Cj.mT;have Fy:=wY.more Ql
  go_wp2_with (go_at_call 28;refine (hX.c2 (fY.on Fy.b0) Cj (.str _)).mono ?_)
  rintro e W5 ⟨v5,rfl,Qk,Pj⟩
  have:=Pj.cG
  subst this;have Qw:=Fy.more Qk
  go_wp2_with (go_at_call 74;refine (Qw.str hz tx (by simp) (by omega)).mono ?_)
  intro r W6 hq
  first|(intro Fx;subst hq)|(obtain ⟨hq,Fx⟩:=hq;subst hq)
  go_wp2_with (go_at_call 77;refine (Fx.string hz).mono ?_)
  rintro r W7 ⟨rfl,Qj⟩
  go_wp2
  go_ret2
  refine ⟨_,rfl,Qj,VR.rz ?_ (.int _ _)⟩;exact .str _
theorem Z0 (s m:List Int) (L C:Int) (q r:List (Int×Int)) (tx:ByteArray) (hC:Fn Tryz.prog 24 [dgA s m L] (.tup [plA false q,I 0])) (hK:Fn Tryz.prog 42 [dgA s m L] (I C)) (h1:C.tmod 2≠1)
  (hT:Fn Tryz.prog 72 [plA false q, .fn 76 []] (plA false r)) (hX:Fn Tryz.prog 28 [plA false r, .str ⟨#[116]⟩] (.str tx)) (yg:tx.size<=100000000):
  Fn Tryz.prog 25 [dgA s m L] (.tup [.str ⟨(([]:List UInt8)++[40]++tx.data.toList++[41,116,94,40,49,47,50,41]).toArray⟩,I 0]):=by
 refine ⟨⟨_,Tryz.func25,rfl,by decide⟩,fun w Mx vs fY hl hv=>?_⟩
 match vs,hl with
 |[v0],_=>
  have h0:=hv 0 v0 _ rfl rfl;obtain ⟨a,n,k,b,n',k',rfl⟩:=h0.uz;have Fm:Below w.heap.size w (w.alloc (.cells #[.slice a n k, .slice b n' k', .int .i64 L] 24)):=(Below.refl _ w).alloc (Nat.le_refl _) _;have h1b:(C.tmod 2==1)=false:=by simpa using h1
  show Calls Tryz.prog 25 #[.agg #[.slice a n k, .slice b n' k', .int .i64 L]] w _
  go_enter Tryz.func25,Tryz.ntmps25
  go_wp2_with (go_at_call 24;refine (hC.c1 (fY.on Fm) (h0.on Fm)).mono ?_)
  rintro e W1 ⟨v1,rfl,gZ,hv1⟩;obtain ⟨vp,ve,rfl,hp,he⟩:=hv1.oc
  have:=he.av
  subst this;obtain ⟨pa,pn,pk,rfl⟩:=hp.mT;have hJ:=JW.start (pv:= #[.bool false, .slice pa pn pk]) gZ;have hz:w.heap.size<=W1.heap.size:=by have:=gZ.size;rw [w9] at this;omega
  have d0:=hJ.cd (i:=0) rfl;have d1:=hJ.cd (i:=1) rfl;have d2:=hJ.cd (i:=2) rfl
  go_wp2_with (go_at_call 42;refine (hK.c1 (fY.on hJ.b0) (h0.on hJ.b0)).mono ?_)
  rintro e W3 ⟨v3,rfl,Fo,hv3⟩
  have:=hv3.av
  subst this;have wY:=hJ.more Fo;have p0:=wY.cp (i:=0) rfl;have p1:=wY.cp (i:=1) rfl;clear d0 d1 d2
  go_wp2_with (go_at_call 74;refine (wY.str hz ⟨#[40]⟩ (by simp) (by show (1:Nat)<=100000000;decide)).mono ?_)
  intro r0 W8 hq
  first|(intro CD;subst hq)|(obtain ⟨hq,CD⟩:=hq;subst hq)
  have p0:=CD.cp (i:=0) rfl;have p1:=CD.cp (i:=1) rfl
  go_wp2_with (go_at_call 72;refine (hT.c2 (fY.on CD.b0) (hp.on CD.b1) (VR.fn _ [] [] rfl (fun i u x hu=>by simp at hu))).mono ?_)
  rintro e W4 ⟨v4,rfl,Ql,Cj⟩;obtain ⟨ra,rn,rk,rfl⟩:=Cj.mT;have Fy:=CD.more Ql
  go_wp2_with (go_at_call 28;refine (hX.c2 (fY.on Fy.b0) Cj (.str _)).mono ?_)
  rintro e W5 ⟨v5,rfl,Qk,Pj⟩
  have:=Pj.cG
  subst this;have Qw:=Fy.more Qk
  go_wp2_with (go_at_call 74;refine (Qw.str hz tx (by show (1:Nat)<=100000000000;decide) (by omega)).mono ?_)
  intro r W6 hq
  first|(intro Fx;subst hq)|(obtain ⟨hq,Fx⟩:=hq;subst hq)
  go_wp2_with (go_at_call 74;refine (Fx.str hz ⟨#[41,116,94,40,49,47,50,41]⟩ (by have:tx.data.toList.length<=100000000:=yg;rw [List.length_append];show 1+_<=_;omega) (by show (8:Nat)<=100000000;decide)).mono ?_)
  intro r W9 hq
  first|(intro XX;subst hq)|(obtain ⟨hq,XX⟩:=hq;subst hq)
  go_wp2_with (go_at_call 77;refine (XX.string hz).mono ?_)
  rintro r W7 ⟨rfl,Qj⟩
  go_wp2
  go_ret2
  exact ⟨_,rfl,Qj,VR.rz (.str _) (.int _ _)⟩
end Go.Proofs.YtphjphpmfflfpaaGreatDoor
namespace Go.Proofs.YtphjphpmfflfpaaGreatDoor
set_option maxRecDepth 100000
theorem L5 {s m:List Int} {L:Nat} (hv:bF s m L=true) (hs:s.length<=9) (hL:L<=20) {p:List (Int×Int)} (ha:b8 p) (N:Nat) (hN:5*s.length+2*L<=N+2) (hp: ∀t∈p,-(N:Int)<=t.1/\t.1<=N)
  (h:((List.range (2*N+1)).all fun i=>decide (cfL p ((i:Int)-N)=aU m s.length L 1 ((i:Int)-N)))=true):gP m s.length L=p:=by
 have hq:=bP hv;have h1:=qq hq (fun _=>true);have h2:=qq hq (fun _=>false)
 have:bZ p (aU m s.length L 1):=⟨ha,fun e=>by
  by_cases he: -(N:Int)<=e/\e<=N
  ·have:=List.all_eq_true.1 h (e+N).toNat (List.mem_range.2 (by omega))
   rw [decide_eq_true_iff,show (((e+(N:Int)).toNat:Nat):Int)-N=e by omega] at this;exact this
  ·rw [rq fun t ht=>by have:=hp t ht;omega];by_cases h0:aU m s.length L 1 e=0
   ·exact h0.symm
   ·have:=uZ hq h0
    omega⟩
 exact (this.eq fun e he=>oW hq hs hL (by omega) he).symm
open Go Go.RowKit
set_option maxHeartbeats 8000000
theorem RO {nm:List UInt8} {p:List (Int×Int)} (hn:nm.length<=1000) (hr:FK p): ∀k,k<=p.length->(txtN nm p k).length<=k*2000
 |0,_=>by simp [txtN]
 |k+1,hk=>by
  have h1:=RO hn hr k (by omega);have h2:=Tv (nm:=nm) (k:=k) hn (hr k (by omega));simp only [txtN,List.length_append];omega
theorem OD {nm:List UInt8} {p:List (Int×Int)} (hn:nm.length<=1000) (hr:FK p) (hl:p.length<=2001):(mN nm p).length<=100000000:=by
 unfold mN
 split
 ·simp
 ·have:=RO hn hr p.length (Nat.le_refl _);omega
theorem ZZ (e:Int) (h0: -1000<=e) (h1:e<=1000):Fn Tryz.prog 75 [I e] (I (e.tdiv 2)):=by
 have hr:=(j6 e).2 (by omega) (by omega);refine Fn.intro [.tmp 2] Tryz.func75 rfl rfl (by decide) (by simp [Tryz.ntmps75]) ?_;rw [Tryz.ntmps75]
 repeat' (first|omega|(try apply ag);simp only [go_sem,sevalprocAttr]|apply ah<;>(intro h_;(try simp only [h_]);revert h_)|apply ai|apply aj|apply ae|apply And.intro|with_reducible intro h_|trivial|simp only [go_sem,ak];omega)
theorem ZY (e:Int) (h0: -999<=e) (h1:e<=1000):Fn Tryz.prog 76 [I e] (I ((e-1).tdiv 2)):=by
 have hr:=(j6 (e-1)).2 (by omega) (by omega);refine Fn.intro [.tmp 2] Tryz.func76 rfl rfl (by decide) (by simp [Tryz.ntmps76]) ?_;rw [Tryz.ntmps76]
 repeat' (first|omega|(try apply ag);simp only [go_sem,sevalprocAttr]|apply ah<;>(intro h_;(try simp only [h_]);revert h_)|apply ai|apply aj|apply ae|apply And.intro|with_reducible intro h_|trivial|simp only [go_sem,ak];omega)
def iJ (m:List Int) (n L:Nat) (w C x:Int):Int:=if C % 2=1 then fP m n L w (2*x) else fP m n L w (2*x+1)
def Ej (C:Int) (p:List (Int×Int)):List UInt8:=if C % 2=1 then mN [116] p else ([]:List UInt8)++[40]++mN [116] p++[41,116,94,40,49,47,50,41]
theorem RN (s m:List Int) (L:Nat) (hs:s.length<=9) (hL:L<=20) (hv:bF s m L=true) (az: ¬(s.length=0/\L=0)):
  Fn Tryz.prog 25 [dgA s m L] (.tup [.str ⟨(Ej ((a8 s m).length+L) (dN (iJ m s.length L (bq s s.length) ((a8 s m).length+L)))).toArray⟩,I 0]):=by
 have hC:=RQ s m L hs hL hv az;have hK:=HU s m L;rw [if_pos hv] at hK;have hp:=bP hv;have v1:=cK hv;have sI:=rh v1.sg s.length (Nat.le_refl _);have ez:=fun e (he:dZ m s.length L (bq s s.length) e≠0)=>JN hv az he;have cL:=zu s m;generalize bq s s.length=w at*;generalize (a8 s m).length=st at*;have iK:=fun e (he:dZ m s.length L w e≠0)=>mL hp hs hL (by omega) he
 have fA: ∀x,fP m s.length L w x≠0-> -100<=x/\x<=100:=fun x hx=>by have:=iK _ hx;omega
 have pq: ∀x,fP m s.length L w x≠0->(x+st+L-1)% 2=0:=fun x hx=>by have:=ez _ hx;omega
 have kM: ∀x,-70368744177664<=fP m s.length L w x/\fP m s.length L w x<=70368744177664:=fun x=>CZ hp hs hL _;have hq:bZ (dN (fP m s.length L w)) (fP m s.length L w):=pH fun e he=>by have:=fA e he;omega
 have Ix: ∀e,fP m s.length L w e≠0->gK (dN (fP m s.length L w))<=e/\e<gK (dN (fP m s.length L w))+(ph (dN (fP m s.length L w))-gK (dN (fP m s.length L w))+1).toNat:=fun e he=>by
  have h1:=hq.cf e;obtain ⟨t,ht,rfl⟩:=Gh (by rw [h1];exact he);have hlen:0<(dN (fP m s.length L w)).length:=List.length_pos_of_mem ht
  have:=uV hq.asc ht
  unfold gK ph;rw [if_pos hlen,if_pos hlen];omega
 have yh: ∀x,iJ m s.length L w (st+L) x≠0-> -1000<=x/\x<=1000:=fun x hx=>by
  unfold iJ at hx
  split at hx<;>(have:=fA _ hx;omega)
 have hJ:bZ (dN (iJ m s.length L w (st+L))) (iJ m s.length L w (st+L)):=pH yh;have hlen:=hJ.len yh;have ji:FK (dN (iJ m s.length L w (st+L))):=fun k hk=>by
  have h1:=hJ.mem (jW hk);have h2:=yh _ h1.2;have h3: -70368744177664<=iJ m s.length L w (st+L) ((dN (iJ m s.length L w (st+L))).getD k (0,0)).1/\iJ m s.length L w (st+L) ((dN (iJ m s.length L w (st+L))).getD k (0,0)).1<=70368744177664:=by
   generalize ((dN (iJ m s.length L w (st+L))).getD k (0,0)).1=y;unfold iJ;split<;>exact kM _
  rw [h1.1];omega
 have hX:=VX (dN (iJ m s.length L w (st+L))) ⟨#[116]⟩ ji (by decide) (by omega);rw [show (⟨#[116]⟩:ByteArray).data.toList=[116] from rfl] at hX;have gM:(⟨(mN [116] (dN (iJ m s.length L w (st+L)))).toArray⟩:ByteArray).size<=100000000:=by
  show (mN [116] (dN (iJ m s.length L w (st+L)))).toArray.size<=_;rw [List.size_toArray];exact OD (by decide) ji hlen
 by_cases hodd:((st:Int)+L)% 2=1
 ·obtain ⟨r,hr,hT⟩:=LK _ _ (fun e=>e.tdiv 2) 75 hq (fun e he=>by have:=fA e he;omega) kM (fun a b ha hb fC=>by
   have:=pq a ha;have:=pq b hb;have:=(j6 a).1 (by omega);have:=(j6 b).1 (by omega);omega) (fun e h0 h1=>⟨ZZ e h0 h1,(j6 _).2 (by omega) (by omega)⟩)
  have iM:bZ r (iJ m s.length L w (st+L)):=hr.congr fun x=>by
   unfold iJ;rw [if_pos hodd];by_cases h0:fP m s.length L w (2*x)=0
   ·rw [KB fun e he hex=>?_]
    ·rw [h0]
    ·have:=pq e he
     have:=(j6 e).1 (by omega)
     have:e=2*x:=by omega
     rw [this] at he;exact he h0
   ·rw [Jc Ix (fun a b ha hb fC=>by have:=pq a ha;have:=pq b hb;have:=(j6 a).1 (by omega);have:=(j6 b).1 (by omega);omega) (e:=2*x) (by have:=(j6 (2*x)).1 (by omega);omega) h0]
  rw [iM.eq yh] at hT
  have:=Z1 s m L (st+L) _ _ _ hC hK (by rw [Int.tmod_eq_emod_of_nonneg (by omega)];exact hodd) hT hX gM
  unfold Ej;rw [if_pos hodd];exact this
 ·obtain ⟨r,hr,hT⟩:=LK _ _ (fun e=>(e-1).tdiv 2) 76 hq (fun e he=>by have:=fA e he;omega) kM (fun a b ha hb fC=>by
   have:=pq a ha;have:=pq b hb;have:=(j6 (a-1)).1 (by omega);have:=(j6 (b-1)).1 (by omega);omega) (fun e h0 h1=>by
   by_cases h9:e= -1000
   ·subst h9;exact ⟨by
     refine Fn.intro [.tmp 2] Tryz.func76 rfl rfl (by decide) (by simp [Tryz.ntmps76]) ?_;rw [Tryz.ntmps76]
     repeat' (first|omega|(try apply ag);simp only [go_sem,sevalprocAttr]|apply ah<;>(intro h_;(try simp only [h_]);revert h_)|apply ai|apply aj|apply ae|apply And.intro|with_reducible intro h_|trivial|simp only [go_sem,ak];omega),by decide⟩
   ·exact ⟨ZY e (by omega) h1,(j6 _).2 (by omega) (by omega)⟩)
  have iM:bZ r (iJ m s.length L w (st+L)):=hr.congr fun x=>by
   unfold iJ;rw [if_neg hodd];by_cases h0:fP m s.length L w (2*x+1)=0
   ·rw [KB fun e he hex=>?_]
    ·rw [h0]
    ·have:=pq e he
     have:=(j6 (e-1)).1 (by omega)
     have:e=2*x+1:=by omega
     rw [this] at he;exact he h0
   ·rw [Jc Ix (fun a b ha hb fC=>by have:=pq a ha;have:=pq b hb;have:=(j6 (a-1)).1 (by omega);have:=(j6 (b-1)).1 (by omega);omega) (e:=2*x+1) (by have:=(j6 (2*x+1-1)).1 (by omega);omega) h0]
  rw [iM.eq yh] at hT
  have:=Z0 s m L (st+L) _ _ _ hC hK (by rw [Int.tmod_eq_emod_of_nonneg (by omega)];exact hodd) hT hX gM
  unfold Ej;rw [if_neg hodd];exact this
abbrev qy:List Int:=[1,1,1]
abbrev mP:List Int:=[9,4,7,10,1,8,11,2,5,0,3,6]
theorem BZ:bF qy mP 0=true:=by decide+kernel
theorem L4 (e:Int):aU mP 3 0 1 e=cfL [(-7,1),(-3,-1),(5,-1)] e:=by
 have h:gP mP qy.length 0=[(-7,1),(-3,-1),(5,-1)]:=L5 (s:=qy) (m:=mP) (L:=0) BZ (by decide) (by decide) (p:=[(-7,1),(-3,-1),(5,-1)]) ⟨by decide,by decide⟩ 14 (by decide) (by decide) (by decide+kernel);have hP:bZ (gP mP 3 0) (aU mP 3 0 1):=pH fun e he=>oW (bP BZ) (by decide) (by decide) (by decide) he;rw [←hP.cf];rw [show gP mP 3 0=[(-7,1),(-3,-1),(5,-1)] from h]
theorem US (e:Int):dZ mP 3 0 3 e=cfL [(-16,-1),(-12,1),(-4,1)] e:=by
 unfold dZ;rw [if_neg (by decide),L4];simp only [cfL]
 repeat' split
 all_goals omega
theorem DL:cW mP 3 0 3=[(-16,-1),(-12,1),(-4,1)]:=by
 have:bZ [(-16,-1),(-12,1),(-4,1)] (dZ mP 3 0 3):=⟨⟨by decide,by decide⟩,fun e=>(US e).symm⟩
 exact (this.eq fun e he=>by have:=mL (bP BZ) (by decide) (by decide) (by decide) he;omega).symm
theorem DK:dN (iJ mP 3 0 3 1)=[(1,1),(3,1),(4,-1)]:=by
 have:bZ [(1,1),(3,1),(4,-1)] (iJ mP 3 0 3 1):=⟨⟨by decide,by decide⟩,fun e=>by
  unfold iJ fP;rw [if_pos (by decide),US];simp only [cfL]
  repeat' split
  all_goals omega⟩
 refine (this.eq fun e he=>?_).symm;unfold iJ fP at he;rw [if_pos (by decide)] at he
 have:=mL (bP BZ) (by decide) (by decide) (by decide) he;omega
theorem ZX:bF [] [] 2=true:=by decide+kernel
theorem Ed:dN (iJ [] 0 2 0 2)=[(-1,-1),(0,-1)]:=by
 have h0: ∀x,iJ [] 0 2 0 2 x=cfL [(-1,-1),(0,-1)] x:=fun x=>by
  unfold iJ fP dZ;rw [if_neg (by decide),if_pos (by decide),Sm 1];simp only [dpw,cS,cfL]
  repeat' split
  all_goals omega
 have:bZ [(-1,-1),(0,-1)] (iJ [] 0 2 0 2):=⟨⟨by decide,by decide⟩,fun e=>(h0 e).symm⟩
 refine (this.eq fun e he=>?_).symm;rw [h0] at he;simp only [cfL] at he;by_cases h1:(-1:Int)=e
 ·omega
 ·by_cases h2:(0:Int)=e
  ·omega
  ·rw [if_neg h1,if_neg h2] at he;exact absurd rfl he
theorem OC:Fn Tryz.prog 23 [dgA qy mP 0] (.tup [plA false [(-16,-1),(-12,1),(-4,1)],I 0]):=by
 have h:=pJ qy mP 0 (by decide) (by decide) BZ (by decide);rw [show bq qy qy.length=3 from rfl,show cW mP qy.length 0 3=[(-16,-1),(-12,1),(-4,1)] from DL] at h;exact h
theorem DJ:Fn Tryz.prog 28 [plA false [(-16,-1),(-12,1),(-4,1)], .str ⟨#[65]⟩] (.str ⟨#[45,65,94,45,49,54,43,65,94,45,49,50,43,65,94,45,52]⟩):=by
 have h:=VX [(-16,-1),(-12,1),(-4,1)] ⟨#[65]⟩ (fun k hk=>by
  match k,hk with
  |0,_=>decide
  |1,_=>decide
  |2,_=>decide) (by decide) (by decide)
 rw [show (⟨#[65]⟩:ByteArray).data.toList=[65] from rfl,show mN [65] [(-16,-1),(-12,1),(-4,1)]=[45,65,94,45,49,54,43,65,94,45,49,50,43,65,94,45,52] by decide+kernel] at h;exact h
theorem OB:Fn Tryz.prog 25 [dgA qy mP 0] (.tup [.str ⟨#[116,43,116,94,51,45,116,94,52]⟩,I 0]):=by
 have h:=RN qy mP 0 (by decide) (by decide) BZ (by decide);rw [show ((a8 qy mP).length:Int)+(0:Nat)=1 by decide+kernel,show bq qy qy.length=3 from rfl,show dN (iJ mP qy.length 0 3 1)=[(1,1),(3,1),(4,-1)] from DK,show Ej 1 [(1,1),(3,1),(4,-1)]=[116,43,116,94,51,45,116,94,52] by decide+kernel] at h;exact h
theorem OA:Fn Tryz.prog 25 [dgA [] [] 2] (.tup [.str ⟨#[40,45,116,94,45,49,45,49,41,116,94,40,49,47,50,41]⟩,I 0]):=by
 have h:=RN [] [] 2 (by decide) (by decide) ZX (by decide);rw [show ((a8 [] []).length:Int)+(2:Nat)=2 by decide+kernel,show bq [] ([]:List Int).length=0 from rfl,show dN (iJ [] ([]:List Int).length 2 0 2)=[(-1,-1),(0,-1)] from Ed,show Ej 2 [(-1,-1),(0,-1)]=[40,45,116,94,45,49,45,49,41,116,94,40,49,47,50,41] by decide+kernel] at h;exact h
theorem Dw:Fn Tryz.prog 21 [] (.bool true):=by
 have hP:=OC;have hX:=DJ;have hT:=OB;have hL:=OA
 have hL':Fn Tryz.prog 25 [.agg [.nils, .nils,I 2]] (.tup [.str ⟨#[40,45,116,94,45,49,45,49,41,116,94,40,49,47,50,41]⟩,I 0]):=
  hL.arg (.cons (aR.js (.cons (aR.nils (by decide) rfl) (.cons (aR.nils (by decide) rfl) (.cons (aR.refl _) .nil)))) .nil)
 refine Fn.aq [.tmp 0] Tryz.func21 rfl rfl (by decide) (by simp [Tryz.ntmps21]) ?_;rw [Tryz.ntmps21]
 repeat' (first|omega|(try apply ag);simp only [go_sem,sevalprocAttr]|apply ah<;>(intro h_;(try simp only [h_]);revert h_)|apply ai|apply aj|apply ae|apply And.intro|with_reducible intro h_|trivial|simp only [go_sem,ak];omega)
 refine ⟨aA.ln [0,1] rfl (by simp only [go_sem,sevalprocAttr,Nat.le_refl]) (by simp only [go_sem,sevalprocAttr,Nat.le_refl]) (by simp only [go_sem,sevalprocAttr,Nat.le_refl]) (by simp only [go_sem,sevalprocAttr,Nat.le_refl]) rfl rfl rfl (aA.fn rfl hP ?_)⟩
 repeat' (first|omega|(try apply ag);simp only [go_sem,sevalprocAttr,hX]|(refine ⟨aA.fn (r:=?_) rfl ?_ ?_⟩;rotate_left;assumption)|(refine ⟨bC.fn (r:=?_) rfl ?_ ?_⟩;rotate_left;assumption)|apply ah<;>(intro h_;(try simp only [h_]);revert h_)|apply ai|apply aj|apply ae|apply And.intro|with_reducible intro h_|trivial|simp only [go_sem,ak];omega)
 all_goals exact aR.refl _
def uw (s m:List Int) (L:Int):Bool:=decide (s.length<=9)&&decide (m.length<=45)&&(decide (L<=9)||decide (64<L))
theorem LZ (s m:List Int) (L:Int):Fn Tryz.prog 22 [dgA s m L] (.bool (uw s m L)):=by
 unfold uw;by_cases h1:s.length<=9
 ·have b1:decide ((s.length:Int)<=9)=true:=by rw [decide_eq_true_iff];omega
  rw [decide_eq_true h1];by_cases h2:m.length<=45
  ·have b2:decide ((m.length:Int)<=45)=true:=by rw [decide_eq_true_iff];omega
   rw [decide_eq_true h2];cases b3:decide (L<=9) with
   |true=>
    refine Fn.intro [.tmp 2] Tryz.func22 rfl rfl (by decide) (by simp [Tryz.ntmps22]) ?_;rw [Tryz.ntmps22]
    repeat' (first|omega|(try apply ag);simp only [go_sem,sevalprocAttr,b1,b2,b3]|apply ah<;>(intro h_;(try simp only [h_]);revert h_)|apply ai|apply aj|apply ae|apply And.intro|with_reducible intro h_|trivial|simp only [go_sem,ak];omega)
   |false=>
    refine Fn.intro [.tmp 2] Tryz.func22 rfl rfl (by decide) (by simp [Tryz.ntmps22]) ?_;rw [Tryz.ntmps22]
    repeat' (first|omega|(try apply ag);simp only [go_sem,sevalprocAttr,b1,b2,b3]|apply ah<;>(intro h_;(try simp only [h_]);revert h_)|apply ai|apply aj|apply ae|apply And.intro|with_reducible intro h_|trivial|simp only [go_sem,ak];omega)
  ·have b2:decide ((m.length:Int)<=45)=false:=by rw [decide_eq_false_iff_not];omega
   rw [decide_eq_false h2];refine Fn.intro [.tmp 2] Tryz.func22 rfl rfl (by decide) (by simp [Tryz.ntmps22]) ?_;rw [Tryz.ntmps22]
   repeat' (first|omega|(try apply ag);simp only [go_sem,sevalprocAttr,b1,b2]|apply ah<;>(intro h_;(try simp only [h_]);revert h_)|apply ai|apply aj|apply ae|apply And.intro|with_reducible intro h_|trivial|simp only [go_sem,ak];omega)
 ·have b1:decide ((s.length:Int)<=9)=false:=by rw [decide_eq_false_iff_not];omega
  rw [decide_eq_false h1];refine Fn.intro [.tmp 2] Tryz.func22 rfl rfl (by decide) (by simp [Tryz.ntmps22]) ?_;rw [Tryz.ntmps22]
  repeat' (first|omega|(try apply ag);simp only [go_sem,sevalprocAttr,b1]|apply ah<;>(intro h_;(try simp only [h_]);revert h_)|apply ai|apply aj|apply ae|apply And.intro|with_reducible intro h_|trivial|simp only [go_sem,ak];omega)
def uD (s m:List Int) (L:Int):Bool:=uw s m L&&bF s m L&&decide (0<(s.length:Int)+L)
theorem Bz (s m:List Int) (L:Int):Fn Tryz.prog 34 [dgA s m L] (.bool (uD s m L)):=by
 have hF:=LZ s m L;have hV:=l8 s m L;unfold uD;cases h1:uw s m L with
 |false=>
  rw [h1] at hF;refine Fn.intro [.tmp 2] Tryz.func34 rfl rfl (by decide) (by simp [Tryz.ntmps34]) ?_;rw [Tryz.ntmps34]
  repeat' (first|omega|(try apply ag);simp only [go_sem,sevalprocAttr,hF]|(refine ⟨aA.fn (r:=?_) rfl ?_ ?_⟩;rotate_left;assumption)|(refine ⟨bC.fn (r:=?_) rfl ?_ ?_⟩;rotate_left;assumption)|apply ah<;>(intro h_;(try simp only [h_]);revert h_)|apply ai|apply aj|apply ae|apply And.intro|with_reducible intro h_|trivial|simp only [go_sem,ak];omega)
 |true=>
  rw [h1] at hF;cases h2:bF s m L with
  |false=>
   rw [h2] at hV;refine Fn.intro [.tmp 2] Tryz.func34 rfl rfl (by decide) (by simp [Tryz.ntmps34]) ?_;rw [Tryz.ntmps34]
   repeat' (first|omega|(try apply ag);simp only [go_sem,sevalprocAttr,hF]|(refine ⟨aA.fn (r:=?_) rfl ?_ ?_⟩;rotate_left;assumption)|(refine ⟨bC.fn (r:=?_) rfl ?_ ?_⟩;rotate_left;assumption)|apply ah<;>(intro h_;(try simp only [h_]);revert h_)|apply ai|apply aj|apply ae|apply And.intro|with_reducible intro h_|trivial|simp only [go_sem,ak];omega)
  |true=>
   rw [h2] at hV;have v1:=cK h2;have qh:=v1.s64;have l0:=v1.l0;have vi:=v1.vi;refine Fn.intro [.tmp 2] Tryz.func34 rfl rfl (by decide) (by simp [Tryz.ntmps34]) ?_;rw [Tryz.ntmps34]
   repeat' (first|omega|(try apply ag);simp only [go_sem,sevalprocAttr,hF]|(refine ⟨aA.fn (r:=?_) rfl ?_ ?_⟩;rotate_left;assumption)|(refine ⟨bC.fn (r:=?_) rfl ?_ ?_⟩;rotate_left;assumption)|apply ah<;>(intro h_;(try simp only [h_]);revert h_)|apply ai|apply aj|apply ae|apply And.intro|with_reducible intro h_|trivial|simp only [go_sem,ak];omega)
theorem xu {s m:List Int} {L:Int} (h:uD s m L=true):s.length<=9/\ ∃l:Nat,L=l/\l<=9/\bF s m l=true/\ ¬(s.length=0/\l=0):=by
 unfold uD uw at h;simp only [Bool.and_eq_true,Bool.or_eq_true,decide_eq_true_eq] at h;obtain ⟨⟨⟨⟨h1,h2⟩,h3⟩,h4⟩,h5⟩:=h;have l0:=(cK h4).l0;have vi:=(cK h4).vi;obtain ⟨l,rfl⟩: ∃l:Nat,L=l:=⟨L.toNat,by omega⟩;exact ⟨h1,l,rfl,by omega,h4,by omega⟩
end Go.Proofs.YtphjphpmfflfpaaGreatDoor
