/- Layer 12: the text of a polynomial, as a contract. -/
import Derived.Test.YtphjphpmfflfpaaGreatDoorTx3
import Derived.Test.YtphjphpmfflfpaaGreatDoorZd
import Derived.Test.YtphjphpmfflfpaaGreatDoorZs
import Derived.Test.YtphjphpmfflfpaaGreatDoorZo
set_option linter.unusedSimpArgs false
set_option linter.unusedVariables false
namespace Go.Proofs.YtphjphpmfflfpaaGreatDoor
open Go Go.RowKit
set_option maxRecDepth 100000
set_option maxHeartbeats 4000000
def Da (p:List (Int×Int)):Prop:= ∀k,k<p.length-> -4611686018427387904<=(p.getD k (0,0)).1/\(p.getD k (0,0)).1<=4611686018427387904/\ -4611686018427387904<=(p.getD k (0,0)).2/\(p.getD k (0,0)).2<=4611686018427387904
def lj (name:List UInt8) (p:List (Int×Int)):List UInt8:=if p.length=0 then [48] else txtN name p p.length
theorem VX (name:ByteArray):Fn Tryz.prog 28 [plA false [], .str name] (.str ⟨#[48]⟩):=by
 refine Fn.intro [.tmp 4] Tryz.func28 rfl rfl (by decide) (by simp [Tryz.ntmps28]) ?_;rw [Tryz.ntmps28]
 repeat' (first|omega|(try apply aj);simp only [go_sem,sevalprocAttr]|apply ag<;>(intro h_;(try simp only [h_]);revert h_)|apply ah|apply ai|apply ae|apply And.intro|with_reducible intro h_|trivial|simp only [go_sem,ak];omega)
theorem VW (p:List (Int×Int)) (name:ByteArray) (jq:0<p.length) (hr:Da p) (hn:name.size<=1000) (jK:p.length<=1000000):
  Fn Tryz.prog 28 [plA false p, .str name] (.str ⟨(txtN name.data.toList p p.length).toArray⟩):=by
 refine ⟨⟨_,Tryz.func28,rfl,by decide⟩,fun w Mx vs gn hl hv=>?_⟩
 match vs,hl with
 |[v0,v1],_=>
  have h0:=hv 0 v0 _ rfl rfl;have h1:=(hv 1 v1 _ rfl rfl).bT;subst h1;obtain ⟨us,rfl,wZ,hu⟩:=h0.aQ
  match us,wZ with
  |[u0,u1],_=>
   have k0:=(hu 0 u0 _ rfl rfl).bool_inv;have k1:=hu 1 u1 _ rfl rfl;subst k0;cases k1 with
   |ro _ _ _ ad cap x hlen iU _ ei hx=>
    obtain ⟨a,rfl,hb,_,hj⟩:=ei jq;have bC:(Cs.lst (dA p)).len=2*p.length:=ybu p;refine (Xs p name a cap w jq gn.1 hb (fun k hk=>?_) hr hn jK).mono ?_
    ·have e0:=hx (k*2) (by omega);have e1:=hx (k*2+1) (by omega);rw [show (Cs.lst (dA p)).get (k*2)=(dA p).getD (k*2) .any from rfl,oF p k hk] at e0;rw [show (Cs.lst (dA p)).get (k*2+1)=(dA p).getD (k*2+1) .any from rfl,s6 p k hk] at e1;refine ⟨?_,?_⟩
     ·rw [hj _ (by omega),e0.aq]
     ·rw [hj _ (by omega),e1.aq]
    ·rintro e w' ⟨rfl,pY⟩;exact ⟨_,rfl,pY, .str _⟩
theorem Mz (p:List (Int×Int)) (name:ByteArray) (hr:Da p) (hn:name.size<=1000) (jK:p.length<=1000000):
  Fn Tryz.prog 28 [plA false p, .str name] (.str ⟨(lj name.data.toList p).toArray⟩):=by
 unfold lj
 split
 ·obtain rfl:p=[]:=List.eq_nil_of_length_eq_zero (by assumption);exact VX name
 ·exact VW p name (by omega) hr hn jK
end Go.Proofs.YtphjphpmfflfpaaGreatDoor
namespace Go.Proofs.YtphjphpmfflfpaaGreatDoor
open Go Go.RowKit Go.Shelf
set_option maxRecDepth 100000
set_option maxHeartbeats 8000000
theorem VR.on {w W:World} {Mx:Nat->Prop} {v:Value} {x:AV} (h:VR w Mx ρ0 (fun _=>False) v x) (hb:Below w.heap.size w W):VR W Mx ρ0 (fun _=>False) v x:=
 h.carry hb.size (fun b aA hm=>⟨hb.block b aA,hm⟩) (fun _ h=>h.elim)
theorem nt.on {w W:World} {Mx:Nat->Prop} (h:nt w Mx) (hb:Below w.heap.size w W):nt W Mx:=⟨h.1.later hb,fun b hm=>by have:=h.2 b hm;have:=hb.size;omega⟩
theorem Fn.c1 {P:Program} {f:Nat} {x r:AV} (h:Fn P f [x] r) {w:World} {Mx:Nat->Prop} (hM:nt w Mx) {v:Value} (hv:VR w Mx ρ0 (fun _=>False) v x):
  Calls P f #[v] w fun e w'=> ∃v',e= .returned v'/\Below w.heap.size w w'/\VR w' Mx ρ0 (fun _=>False) v' r:=
 h.2 w Mx [v] hM rfl fun i u y hu hy=>by
  match i,hu,hy with
  |0,hu,hy=>cases hu;cases hy;exact hv
theorem Fn.c2 {P:Program} {f:Nat} {x y r:AV} (h:Fn P f [x,y] r) {w:World} {Mx:Nat->Prop} (hM:nt w Mx) {v u:Value} (hv:VR w Mx ρ0 (fun _=>False) v x) (hu:VR w Mx ρ0 (fun _=>False) u y):
  Calls P f #[v,u] w fun e w'=> ∃v',e= .returned v'/\Below w.heap.size w w'/\VR w' Mx ρ0 (fun _=>False) v' r:=
 h.2 w Mx [v,u] hM rfl fun i u' y BX hy=>by
  match i,BX,hy with
  |0,BX,hy=>cases BX;cases hy;exact hv
  |1,BX,hy=>cases BX;cases hy;exact hu
theorem VR.sF {w:World} {Mx:Nat->Prop} {v:Value} {s m:List Int} {L:Int} (h:VR w Mx ρ0 (fun _=>False) v (dgA s m L)): ∃a n k b n' k',v= .agg #[.slice a n k, .slice b n' k', .int .i64 L]:=by
 obtain ⟨us,rfl,wZ,hu⟩:=h.aQ
 match us,wZ,hu with
 |[a,b,c],_,hu=>
  have h0:=hu 0 a _ rfl rfl;have h1:=hu 1 b _ rfl rfl;have h2:=(hu 2 c _ rfl rfl).aq;subst h2;cases h0;cases h1;exact ⟨_,_,_,_,_,_,rfl⟩
theorem VR.lA {w:World} {Mx:Nat->Prop} {v:Value} {b:Bool} {p:List (Int×Int)} (h:VR w Mx ρ0 (fun _=>False) v (plA b p)): ∃a n k,v= .agg #[.bool b, .slice a n k]:=by
 obtain ⟨us,rfl,wZ,hu⟩:=h.aQ
 match us,wZ,hu with
 |[a,c],_,hu=>
  have h0:=(hu 0 a _ rfl rfl).bool_inv;have h1:=hu 1 c _ rfl rfl;subst h0;cases h1;exact ⟨_,_,_,rfl⟩
theorem VR.mI {w:World} {Mx:Nat->Prop} {v:Value} {x y:AV} (h:VR w Mx ρ0 (fun _=>False) v (.tup [x,y])): ∃a b,v= .tuple #[a,b]/\VR w Mx ρ0 (fun _=>False) a x/\VR w Mx ρ0 (fun _=>False) b y:=by
 obtain ⟨us,rfl,wZ,hu⟩:=h.dP
 match us,wZ,hu with
 |[a,c],_,hu=>exact ⟨a,c,rfl,hu 0 a _ rfl rfl,hu 1 c _ rfl rfl⟩
theorem WA (w:World):Lib.IsBuilderF 93 5 w.heap.size w.heap.size (Lib.byteCells []) (w.alloc (.cells #[.pointer none, .slice none 0 0] 93)):=by
 have e2:=AH w (.cells #[.pointer none, .slice none 0 0] 93);exact .inl ⟨by omega, .slice none 0 0,e2,⟨rfl, .inl ⟨rfl,rfl⟩⟩,by simp [Value.ownBlock]⟩
structure JW (w:World) (d:Array Value) (W1:World) (pv:Array Value) (acc:List UInt8) (W:World):Prop where
 b0:Below w.heap.size w W
 c0:Below (w.heap.size+1) (w.alloc (.cells d 24)) W
 c1:Below (W1.heap.size+1) (W1.alloc (.cells pv 29)) W
 bl:Lib.IsBuilderF 93 5 (W1.heap.size+1) (W1.heap.size+1) (Lib.byteCells acc) W
section
variable {w W1 W W':World} {d pv:Array Value} {acc:List UInt8}
theorem uV (w:World) (o:Obj):(w.alloc o).heap.size=w.heap.size+1:=by show (w.heap.push o).size=_;simp
theorem JW.start (hZ:Below (w.alloc (.cells d 24)).heap.size (w.alloc (.cells d 24)) W1):JW w d W1 pv [] ((W1.alloc (.cells pv 29)).alloc (.cells #[.pointer none, .slice none 0 0] 93)):=by
 have h1:=WA (W1.alloc (.cells pv 29));have s0:=uV w (.cells d 24);have s1:=uV W1 (.cells pv 29);have z1:=hZ.size;rw [s1] at h1;rw [s0] at hZ z1;have hA:Below (w.heap.size+1) (w.alloc (.cells d 24)) ((W1.alloc (.cells pv 29)).alloc (.cells #[.pointer none, .slice none 0 0] 93)):=(hZ.alloc (by omega) _).alloc (by rw [s1];omega) _
 have hw:Below w.heap.size w (w.alloc (.cells d 24)):=(Below.refl _ w).alloc (Nat.le_refl _) _;refine ⟨?_,hA,?_,h1⟩
 ·exact hw.trans ⟨hA.os,hA.tape,hA.output,hA.size,fun j hj=>hA.block j (by omega)⟩
 ·have:=(Below.refl (W1.heap.size+1) (W1.alloc (.cells pv 29))).alloc (o:= .cells #[.pointer none, .slice none 0 0] 93) (by rw [s1];omega)
  exact this
theorem JW.more (h:JW w d W1 pv acc W) (hb:Below W.heap.size W W'):JW w d W1 pv acc W':=by
 have k: ∀{B:Nat} {u:World},Below B u W->B<=u.heap.size->Below B u W':=fun {B u} g hB=>g.trans ⟨hb.os,hb.tape,hb.output,hb.size,fun j hj=>hb.block j (by have:=g.size;omega)⟩;have s0:=uV w (.cells d 24);have s1:=uV W1 (.cells pv 29);exact ⟨k h.b0 (Nat.le_refl _),k h.c0 (by omega),k h.c1 (by omega),Pt h.bl hb⟩
theorem JW.str (h:JW w d W1 pv acc W) (hw:w.heap.size<=W1.heap.size) (s:ByteArray) (hl:acc.length<=100000000000) (hs:s.size<=100000000):
  Calls Tryz.prog 74 #[.pointer (some ⟨W1.heap.size+1,0,none⟩), .string s] W fun r W'=>r= .returned (.tuple #[.int .i64 s.size, .nilIface])/\JW w d W1 pv (acc++s.data.toList) W':=by
 have s1:=uV W1 (.cells pv 29);refine (Na (W1.heap.size+1) (W1.heap.size+1) _ s W h.bl (by rw [Lib.byteCells_length];omega) (by have:=h.c1.size;omega)).mono ?_;rintro r W' ⟨rfl,h1,h2,h3⟩;have k: ∀{B:Nat} {u:World},Below B u W->B<=W1.heap.size+1->Below B u W':=fun {B u} g hB=>g.trans ⟨h2.os,h2.tape,h2.output,h2.size,fun j hj=>h2.block j (by omega)⟩
 exact ⟨rfl,k h.b0 (by omega),k h.c0 (by omega),k h.c1 (Nat.le_refl _),by rw [Lib.byteCells_append];exact .inr h1⟩
theorem JW.string (h:JW w d W1 pv acc W) (hw:w.heap.size<=W1.heap.size):Calls Tryz.prog 77 #[.pointer (some ⟨W1.heap.size+1,0,none⟩)] W fun r W'=>r= .returned (.string ⟨acc.toArray⟩)/\Below w.heap.size w W':=by
 have s1:=uV W1 (.cells pv 29);refine (Tryz.Builder_String_any_k (W1.heap.size+1) (W1.heap.size+1) acc W h.bl (by have:=h.c1.size;omega)).mono ?_;rintro r W' ⟨rfl,_,h2,_⟩;exact ⟨rfl,h.b0.trans ⟨h2.os,h2.tape,h2.output,h2.size,fun j hj=>h2.block j (by omega)⟩⟩
theorem JW.b1 (h:JW w d W1 pv acc W):Below W1.heap.size W1 W:=
 ((Below.refl W1.heap.size W1).alloc (o:= .cells pv 29) (Nat.le_refl _)).trans ⟨h.c1.os,h.c1.tape,h.c1.output,h.c1.size,fun j hj=>h.c1.block j (by omega)⟩
theorem JW.cd (h:JW w d W1 pv acc W) {i:Nat} {v:Value} (hi:d[i]?=some v):W.cell? ⟨w.heap.size,i,none⟩=some v:=by
 rw [h.c0.cell (by show w.heap.size<_;omega),Lib.cell_of_heap (AH w _)];exact hi
theorem JW.cp (h:JW w d W1 pv acc W) {i:Nat} {v:Value} (hi:pv[i]?=some v):W.cell? ⟨W1.heap.size,i,none⟩=some v:=by
 rw [h.c1.cell (by show W1.heap.size<_;omega),Lib.cell_of_heap (AH W1 _)];exact hi
end
theorem Wz (s m:List Int) (L C:Int) (q r:List (Int×Int)) (tx:ByteArray) (hC:Fn Tryz.prog 24 [dgA s m L] (.tup [plA false q,I 0])) (hK:Fn Tryz.prog 42 [dgA s m L] (I C)) (h1:C.tmod 2=1)
  (hT:Fn Tryz.prog 72 [plA false q, .fn 75 []] (plA false r)) (hX:Fn Tryz.prog 28 [plA false r, .str ⟨#[116]⟩] (.str tx)) (vE:tx.size<=100000000):
  Fn Tryz.prog 25 [dgA s m L] (.tup [.str tx,I 0]):=by
 refine ⟨⟨_,Tryz.func25,rfl,by decide⟩,fun w Mx vs gn hl hv=>?_⟩
 match vs,hl with
 |[v0],_=>
  have h0:=hv 0 v0 _ rfl rfl;obtain ⟨a,n,k,b,n',k',rfl⟩:=h0.sF;have CN:Below w.heap.size w (w.alloc (.cells #[.slice a n k, .slice b n' k', .int .i64 L] 24)):=(Below.refl _ w).alloc (Nat.le_refl _) _;have Y4:(C.tmod 2==1)=true:=by simpa using h1
  show Calls Tryz.prog 25 #[.agg #[.slice a n k, .slice b n' k', .int .i64 L]] w _
  go_enter Tryz.func25,Tryz.ntmps25
  go_wp2_with (go_at_call 24;refine (hC.c1 (gn.on CN) (h0.on CN)).mono ?_)
  rintro e W1 ⟨v1,rfl,hZ,hv1⟩;obtain ⟨vp,ve,rfl,hp,he⟩:=hv1.mI
  have:=he.aq
  subst this;obtain ⟨pa,pn,pk,rfl⟩:=hp.lA;have hJ:=JW.start (pv:= #[.bool false, .slice pa pn pk]) hZ;have hz:w.heap.size<=W1.heap.size:=by have:=hZ.size;rw [uV] at this;omega
  have d0:=hJ.cd (i:=0) rfl;have d1:=hJ.cd (i:=1) rfl;have d2:=hJ.cd (i:=2) rfl
  go_wp2_with (go_at_call 42;refine (hK.c1 (gn.on hJ.b0) (h0.on hJ.b0)).mono ?_)
  rintro e W3 ⟨v3,rfl,CO,KA⟩
  have:=KA.aq
  subst this;have uM:=hJ.more CO;have p0:=uM.cp (i:=0) rfl;have p1:=uM.cp (i:=1) rfl;clear d0 d1 d2
  go_wp2_with (go_at_call 72;refine (hT.c2 (gn.on uM.b0) (hp.on uM.b1) (VR.fn _ [] [] rfl (fun i u x hu=>by simp at hu))).mono ?_)
  rintro e W4 ⟨v4,rfl,LH,zh⟩;obtain ⟨ra,rn,rk,rfl⟩:=zh.lA;have CZ:=uM.more LH
  go_wp2_with (go_at_call 28;refine (hX.c2 (gn.on CZ.b0) zh (.str _)).mono ?_)
  rintro e W5 ⟨v5,rfl,LG,Kz⟩
  have:=Kz.bT
  subst this;have LR:=CZ.more LG
  go_wp2_with (go_at_call 74;refine (LR.str hz tx (by simp) (by omega)).mono ?_)
  intro r W6 hq
  first|(intro CY;subst hq)|(obtain ⟨hq,CY⟩:=hq;subst hq)
  go_wp2_with (go_at_call 77;refine (CY.string hz).mono ?_)
  rintro r W7 ⟨rfl,LF⟩
  go_wp2
  go_ret2
  refine ⟨_,rfl,LF,VR.pD ?_ (.int _ _)⟩;exact .str _
theorem Wy (s m:List Int) (L C:Int) (q r:List (Int×Int)) (tx:ByteArray) (hC:Fn Tryz.prog 24 [dgA s m L] (.tup [plA false q,I 0])) (hK:Fn Tryz.prog 42 [dgA s m L] (I C)) (h1:C.tmod 2≠1)
  (hT:Fn Tryz.prog 72 [plA false q, .fn 76 []] (plA false r)) (hX:Fn Tryz.prog 28 [plA false r, .str ⟨#[116]⟩] (.str tx)) (vE:tx.size<=100000000):
  Fn Tryz.prog 25 [dgA s m L] (.tup [.str ⟨(([]:List UInt8)++[40]++tx.data.toList++[41,116,94,40,49,47,50,41]).toArray⟩,I 0]):=by
 refine ⟨⟨_,Tryz.func25,rfl,by decide⟩,fun w Mx vs gn hl hv=>?_⟩
 match vs,hl with
 |[v0],_=>
  have h0:=hv 0 v0 _ rfl rfl;obtain ⟨a,n,k,b,n',k',rfl⟩:=h0.sF;have CN:Below w.heap.size w (w.alloc (.cells #[.slice a n k, .slice b n' k', .int .i64 L] 24)):=(Below.refl _ w).alloc (Nat.le_refl _) _;have Y4:(C.tmod 2==1)=false:=by simpa using h1
  show Calls Tryz.prog 25 #[.agg #[.slice a n k, .slice b n' k', .int .i64 L]] w _
  go_enter Tryz.func25,Tryz.ntmps25
  go_wp2_with (go_at_call 24;refine (hC.c1 (gn.on CN) (h0.on CN)).mono ?_)
  rintro e W1 ⟨v1,rfl,hZ,hv1⟩;obtain ⟨vp,ve,rfl,hp,he⟩:=hv1.mI
  have:=he.aq
  subst this;obtain ⟨pa,pn,pk,rfl⟩:=hp.lA;have hJ:=JW.start (pv:= #[.bool false, .slice pa pn pk]) hZ;have hz:w.heap.size<=W1.heap.size:=by have:=hZ.size;rw [uV] at this;omega
  have d0:=hJ.cd (i:=0) rfl;have d1:=hJ.cd (i:=1) rfl;have d2:=hJ.cd (i:=2) rfl
  go_wp2_with (go_at_call 42;refine (hK.c1 (gn.on hJ.b0) (h0.on hJ.b0)).mono ?_)
  rintro e W3 ⟨v3,rfl,CO,KA⟩
  have:=KA.aq
  subst this;have uM:=hJ.more CO;have p0:=uM.cp (i:=0) rfl;have p1:=uM.cp (i:=1) rfl;clear d0 d1 d2
  go_wp2_with (go_at_call 74;refine (uM.str hz ⟨#[40]⟩ (by simp) (by show (1:Nat)<=100000000;decide)).mono ?_)
  intro r0 W8 hq
  first|(intro zF;subst hq)|(obtain ⟨hq,zF⟩:=hq;subst hq)
  have p0:=zF.cp (i:=0) rfl;have p1:=zF.cp (i:=1) rfl
  go_wp2_with (go_at_call 72;refine (hT.c2 (gn.on zF.b0) (hp.on zF.b1) (VR.fn _ [] [] rfl (fun i u x hu=>by simp at hu))).mono ?_)
  rintro e W4 ⟨v4,rfl,LH,zh⟩;obtain ⟨ra,rn,rk,rfl⟩:=zh.lA;have CZ:=zF.more LH
  go_wp2_with (go_at_call 28;refine (hX.c2 (gn.on CZ.b0) zh (.str _)).mono ?_)
  rintro e W5 ⟨v5,rfl,LG,Kz⟩
  have:=Kz.bT
  subst this;have LR:=CZ.more LG
  go_wp2_with (go_at_call 74;refine (LR.str hz tx (by show (1:Nat)<=100000000000;decide) (by omega)).mono ?_)
  intro r W6 hq
  first|(intro CY;subst hq)|(obtain ⟨hq,CY⟩:=hq;subst hq)
  go_wp2_with (go_at_call 74;refine (CY.str hz ⟨#[41,116,94,40,49,47,50,41]⟩ (by have:tx.data.toList.length<=100000000:=vE;rw [List.length_append];show 1+_<=_;omega) (by show (8:Nat)<=100000000;decide)).mono ?_)
  intro r W9 hq
  first|(intro SE;subst hq)|(obtain ⟨hq,SE⟩:=hq;subst hq)
  go_wp2_with (go_at_call 77;refine (SE.string hz).mono ?_)
  rintro r W7 ⟨rfl,LF⟩
  go_wp2
  go_ret2
  exact ⟨_,rfl,LF,VR.pD (.str _) (.int _ _)⟩
end Go.Proofs.YtphjphpmfflfpaaGreatDoor
namespace Go.Proofs.YtphjphpmfflfpaaGreatDoor
set_option maxRecDepth 100000
theorem I3 {s m:List Int} {L:Nat} (hv:dm s m L=true) (hs:s.length<=9) (hL:L<=20) {p:List (Int×Int)} (ha:bG p) (N:Nat) (hN:5*s.length+2*L<=N+2) (hp: ∀t∈p,-(N:Int)<=t.1/\t.1<=N)
  (h:((List.range (2*N+1)).all fun i=>decide (cfL p ((i:Int)-N)=bA m s.length L 1 ((i:Int)-N)))=true):ld m s.length L=p:=by
 have hq:=fA hv;have h1:=s5 hq (fun _=>true);have h2:=s5 hq (fun _=>false)
 have:bH p (bA m s.length L 1):=⟨ha,fun e=>by
  by_cases he: -(N:Int)<=e/\e<=N
  ·have:=List.all_eq_true.1 h (e+N).toNat (List.mem_range.2 (by omega))
   rw [decide_eq_true_iff,show (((e+(N:Int)).toNat:Nat):Int)-N=e by omega] at this;exact this
  ·rw [pA fun t ht=>by have:=hp t ht;omega];by_cases h0:bA m s.length L 1 e=0
   ·exact h0.symm
   ·have:=wI hq h0
    omega⟩
 exact (this.eq fun e he=>tH hq hs hL (by omega) he).symm
open Go Go.RowKit
set_option maxHeartbeats 8000000
theorem NT {nm:List UInt8} {p:List (Int×Int)} (hn:nm.length<=1000) (hr:Da p): ∀k,k<=p.length->(txtN nm p k).length<=k*2000
 |0,_=>by simp [txtN]
 |k+1,hk=>by
  have h1:=NT hn hr k (by omega);have h2:=Ps (nm:=nm) (k:=k) hn (hr k (by omega));simp only [txtN,List.length_append];omega
theorem VV {nm:List UInt8} {p:List (Int×Int)} (hn:nm.length<=1000) (hr:Da p) (hl:p.length<=2001):(lj nm p).length<=100000000:=by
 unfold lj
 split
 ·simp
 ·have:=NT hn hr p.length (Nat.le_refl _);omega
theorem Wx (e:Int) (h0: -1000<=e) (h1:e<=1000):Fn Tryz.prog 75 [I e] (I (e.tdiv 2)):=by
 have hr:=(ji e).2 (by omega) (by omega);refine Fn.intro [.tmp 2] Tryz.func75 rfl rfl (by decide) (by simp [Tryz.ntmps75]) ?_;rw [Tryz.ntmps75]
 repeat' (first|omega|(try apply aj);simp only [go_sem,sevalprocAttr]|apply ag<;>(intro h_;(try simp only [h_]);revert h_)|apply ah|apply ai|apply ae|apply And.intro|with_reducible intro h_|trivial|simp only [go_sem,ak];omega)
theorem Ww (e:Int) (h0: -999<=e) (h1:e<=1000):Fn Tryz.prog 76 [I e] (I ((e-1).tdiv 2)):=by
 have hr:=(ji (e-1)).2 (by omega) (by omega);refine Fn.intro [.tmp 2] Tryz.func76 rfl rfl (by decide) (by simp [Tryz.ntmps76]) ?_;rw [Tryz.ntmps76]
 repeat' (first|omega|(try apply aj);simp only [go_sem,sevalprocAttr]|apply ag<;>(intro h_;(try simp only [h_]);revert h_)|apply ah|apply ai|apply ae|apply And.intro|with_reducible intro h_|trivial|simp only [go_sem,ak];omega)
def gI (m:List Int) (n L:Nat) (w C x:Int):Int:=if C % 2=1 then jY m n L w (2*x) else jY m n L w (2*x+1)
def BD (C:Int) (p:List (Int×Int)):List UInt8:=if C % 2=1 then lj [116] p else ([]:List UInt8)++[40]++lj [116] p++[41,116,94,40,49,47,50,41]
theorem NS (s m:List Int) (L:Nat) (hs:s.length<=9) (hL:L<=20) (hv:dm s m L=true) (aw: ¬(s.length=0/\L=0)) (iS: ∀e,fu m s.length L (b8 s s.length) e≠0->(e-2*(((j8 s m).length:Int)+L-1))% 4=0):
  Fn Tryz.prog 25 [dgA s m L] (.tup [.str ⟨(BD ((j8 s m).length+L) (dJ (gI m s.length L (b8 s s.length) ((j8 s m).length+L)))).toArray⟩,I 0]):=by
 have hC:=VY s m L hs hL hv aw iS;have hK:=T9 s m L;rw [if_pos hv] at hK;have hp:=fA hv;have v1:=jC hv;have wV:=zQ v1.sg s.length (Nat.le_refl _);have dq:=ID s m;generalize b8 s s.length=w at*;generalize (j8 s m).length=st at*;have pO:=fun e (he:fu m s.length L w e≠0)=>pz hp hs hL (by omega) he
 have eh: ∀x,jY m s.length L w x≠0-> -100<=x/\x<=100:=fun x hx=>by have:=pO _ hx;omega
 have o9: ∀x,jY m s.length L w x≠0->(x+st+L-1)% 2=0:=fun x hx=>by have:=iS _ hx;omega
 have jT: ∀x,-70368744177664<=jY m s.length L w x/\jY m s.length L w x<=70368744177664:=fun x=>Ar hp hs hL _;have hq:bH (dJ (jY m s.length L w)) (jY m s.length L w):=sX fun e he=>by have:=eh e he;omega
 have Ft: ∀e,jY m s.length L w e≠0->iy (dJ (jY m s.length L w))<=e/\e<iy (dJ (jY m s.length L w))+(rW (dJ (jY m s.length L w))-iy (dJ (jY m s.length L w))+1).toNat:=fun e he=>by
  have h1:=hq.cf e;obtain ⟨t,ht,rfl⟩:=you (by rw [h1];exact he);have hlen:0<(dJ (jY m s.length L w)).length:=List.length_pos_of_mem ht
  have:=tK hq.asc ht
  unfold iy rW;rw [if_pos hlen,if_pos hlen];omega
 have vF: ∀x,gI m s.length L w (st+L) x≠0-> -1000<=x/\x<=1000:=fun x hx=>by
  unfold gI at hx
  split at hx<;>(have:=eh _ hx;omega)
 have hJ:bH (dJ (gI m s.length L w (st+L))) (gI m s.length L w (st+L)):=sX vF;have hlen:=hJ.len vF;have gN:Da (dJ (gI m s.length L w (st+L))):=fun k hk=>by
  have h1:=hJ.mem (lY hk);have h2:=vF _ h1.2;have h3: -70368744177664<=gI m s.length L w (st+L) ((dJ (gI m s.length L w (st+L))).getD k (0,0)).1/\gI m s.length L w (st+L) ((dJ (gI m s.length L w (st+L))).getD k (0,0)).1<=70368744177664:=by
   generalize ((dJ (gI m s.length L w (st+L))).getD k (0,0)).1=y;unfold gI;split<;>exact jT _
  rw [h1.1];omega
 have hX:=Mz (dJ (gI m s.length L w (st+L))) ⟨#[116]⟩ gN (by decide) (by omega);rw [show (⟨#[116]⟩:ByteArray).data.toList=[116] from rfl] at hX;have fM:(⟨(lj [116] (dJ (gI m s.length L w (st+L)))).toArray⟩:ByteArray).size<=100000000:=by
  show (lj [116] (dJ (gI m s.length L w (st+L)))).toArray.size<=_;rw [List.size_toArray];exact VV (by decide) gN hlen
 by_cases hodd:((st:Int)+L)% 2=1
 ·obtain ⟨r,hr,hT⟩:=IC _ _ (fun e=>e.tdiv 2) 75 hq (fun e he=>by have:=eh e he;omega) jT (fun a b ha hb fh=>by
   have:=o9 a ha;have:=o9 b hb;have:=(ji a).1 (by omega);have:=(ji b).1 (by omega);omega) (fun e h0 h1=>⟨Wx e h0 h1,(ji _).2 (by omega) (by omega)⟩)
  have iN:bH r (gI m s.length L w (st+L)):=hr.congr fun x=>by
   unfold gI;rw [if_pos hodd];by_cases h0:jY m s.length L w (2*x)=0
   ·rw [Hh fun e he hex=>?_]
    ·rw [h0]
    ·have:=o9 e he
     have:=(ji e).1 (by omega)
     have:e=2*x:=by omega
     rw [this] at he;exact he h0
   ·rw [F9 Ft (fun a b ha hb fh=>by have:=o9 a ha;have:=o9 b hb;have:=(ji a).1 (by omega);have:=(ji b).1 (by omega);omega) (e:=2*x) (by have:=(ji (2*x)).1 (by omega);omega) h0]
  rw [iN.eq vF] at hT
  have:=Wz s m L (st+L) _ _ _ hC hK (by rw [Int.tmod_eq_emod_of_nonneg (by omega)];exact hodd) hT hX fM
  unfold BD;rw [if_pos hodd];exact this
 ·obtain ⟨r,hr,hT⟩:=IC _ _ (fun e=>(e-1).tdiv 2) 76 hq (fun e he=>by have:=eh e he;omega) jT (fun a b ha hb fh=>by
   have:=o9 a ha;have:=o9 b hb;have:=(ji (a-1)).1 (by omega);have:=(ji (b-1)).1 (by omega);omega) (fun e h0 h1=>by
   by_cases h9:e= -1000
   ·subst h9;exact ⟨by
     refine Fn.intro [.tmp 2] Tryz.func76 rfl rfl (by decide) (by simp [Tryz.ntmps76]) ?_;rw [Tryz.ntmps76]
     repeat' (first|omega|(try apply aj);simp only [go_sem,sevalprocAttr]|apply ag<;>(intro h_;(try simp only [h_]);revert h_)|apply ah|apply ai|apply ae|apply And.intro|with_reducible intro h_|trivial|simp only [go_sem,ak];omega),by decide⟩
   ·exact ⟨Ww e (by omega) h1,(ji _).2 (by omega) (by omega)⟩)
  have iN:bH r (gI m s.length L w (st+L)):=hr.congr fun x=>by
   unfold gI;rw [if_neg hodd];by_cases h0:jY m s.length L w (2*x+1)=0
   ·rw [Hh fun e he hex=>?_]
    ·rw [h0]
    ·have:=o9 e he
     have:=(ji (e-1)).1 (by omega)
     have:e=2*x+1:=by omega
     rw [this] at he;exact he h0
   ·rw [F9 Ft (fun a b ha hb fh=>by have:=o9 a ha;have:=o9 b hb;have:=(ji (a-1)).1 (by omega);have:=(ji (b-1)).1 (by omega);omega) (e:=2*x+1) (by have:=(ji (2*x+1-1)).1 (by omega);omega) h0]
  rw [iN.eq vF] at hT
  have:=Wy s m L (st+L) _ _ _ hC hK (by rw [Int.tmod_eq_emod_of_nonneg (by omega)];exact hodd) hT hX fM
  unfold BD;rw [if_neg hodd];exact this
end Go.Proofs.YtphjphpmfflfpaaGreatDoor
