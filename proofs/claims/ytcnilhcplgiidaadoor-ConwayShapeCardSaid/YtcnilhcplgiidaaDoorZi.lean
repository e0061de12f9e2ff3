/- Layer 12: the text of a polynomial, as a contract. -/
import Derived.Test.YtcnilhcplgiidaaDoorTx3
import Derived.Test.YtcnilhcplgiidaaDoorZf
import Derived.Test.YtcnilhcplgiidaaDoorZh
set_option linter.unusedSimpArgs false
set_option linter.unusedVariables false
namespace Go.Proofs.YtcnilhcplgiidaaDoor
open Go Go.RowKit
set_option maxRecDepth 100000
set_option maxHeartbeats 4000000
def cok (p:List (Int×Int)):Prop:= ∀k,k<p.length-> -4611686018427387904<=(p.getD k (0,0)).1/\(p.getD k (0,0)).1<=4611686018427387904/\ -4611686018427387904<=(p.getD k (0,0)).2/\(p.getD k (0,0)).2<=4611686018427387904
def txtB (name:List UInt8) (p:List (Int×Int)):List UInt8:=if p.length=0 then [48] else txtN name p p.length
theorem yv8 (name:ByteArray):Fn Tryd.prog 32 [plA false [], .str name] (.str ⟨#[48]⟩):=by
 refine Fn.intro [.tmp 4] Tryd.func32 rfl rfl (by decide) (by simp [Tryd.ntmps32]) ?_;rw [Tryd.ntmps32]
 repeat' (first|omega|(try apply yaa);simp only [go_sem,sevalprocAttr]|apply yad<;>(intro h_;(try simp only [h_]);revert h_)|apply yac|apply yab|apply gspI|apply And.intro|with_reducible intro h_|trivial|simp only [go_sem,la2];omega)
theorem yv9 (p:List (Int×Int)) (name:ByteArray) (hp0:0<p.length) (hr:cok p) (hn:name.size<=1000) (hpl:p.length<=1000000):
  Fn Tryd.prog 32 [plA false p, .str name] (.str ⟨(txtN name.data.toList p p.length).toArray⟩):=by
 refine ⟨⟨_,Tryd.func32,rfl,by decide⟩,fun w Mx vs hMx hl hv=>?_⟩
 match vs,hl with
 |[v0,v1],_=>
  have h0:=hv 0 v0 _ rfl rfl
  have h1:=(hv 1 v1 _ rfl rfl).str_inv
  subst h1
  obtain ⟨us,rfl,hul,hu⟩:=h0.agg_inv
  match us,hul with
  |[u0,u1],_=>
   have k0:=(hu 0 u0 _ rfl rfl).bool_inv
   have k1:=hu 1 u1 _ rfl rfl
   subst k0
   cases k1 with
   |ro _ _ _ ad cap x hlen hcap _ hcell hx=>
    obtain ⟨a,rfl,hb,_,hj⟩:=hcell hp0
    have hcl:(Cs.lst (tmC p)).len=2*p.length:=yc4 p
    refine (ys2 p name a cap w hp0 hMx.1 hb (fun k hk=>?_) hr hn hpl).mono ?_
    ·have e0:=hx (k*2) (by omega)
     have e1:=hx (k*2+1) (by omega)
     rw [show (Cs.lst (tmC p)).get (k*2)=(tmC p).getD (k*2) .any from rfl,yb7 p k hk] at e0
     rw [show (Cs.lst (tmC p)).get (k*2+1)=(tmC p).getD (k*2+1) .any from rfl,ydm p k hk] at e1
     refine ⟨?_,?_⟩
     ·rw [hj _ (by omega),e0.int_inv]
     ·rw [hj _ (by omega),e1.int_inv]
    ·rintro e w' ⟨rfl,hb'⟩
     exact ⟨_,rfl,hb', .str _⟩
theorem yy3 (p:List (Int×Int)) (name:ByteArray) (hr:cok p) (hn:name.size<=1000) (hpl:p.length<=1000000):
  Fn Tryd.prog 32 [plA false p, .str name] (.str ⟨(txtB name.data.toList p).toArray⟩):=by
 unfold txtB
 split
 ·obtain rfl:p=[]:=List.eq_nil_of_length_eq_zero (by assumption)
  exact yv8 name
 ·exact yv9 p name (by omega) hr hn hpl
end Go.Proofs.YtcnilhcplgiidaaDoor
set_option linter.unusedSimpArgs false
set_option linter.unusedVariables false
namespace Go.Proofs.YtcnilhcplgiidaaDoor
open Go Go.RowKit
set_option maxRecDepth 100000
set_option maxHeartbeats 8000000
theorem ytg:txtB [122] [(0,1),(2,1)]=[49,43,122,94,50]:=by decide+kernel
theorem yqx:Fn Tryd.prog 6 [] (.bool true):=by
 refine yv7 ?_
 have h:=yy3 [(0,1),(2,1)] ⟨#[122]⟩ (fun k hk=>by
  match k,hk with
  |0,_=>decide
  |1,_=>decide) (by decide) (by decide)
 rw [show (⟨#[122]⟩:ByteArray).data.toList=[122] from rfl,ytg] at h
 exact h
end Go.Proofs.YtcnilhcplgiidaaDoor
set_option linter.unusedSimpArgs false
set_option linter.unusedVariables false
namespace Go.Proofs.YtcnilhcplgiidaaDoor
open Go Go.RowKit
set_option maxRecDepth 100000
set_option maxHeartbeats 8000000
theorem yy4 (p:List (Int×Int)):Fn Tryd.prog 10 [plA false p] (.bool ((p.length:Int)==0)):=by
 refine Fn.intro [.tmp 2] Tryd.func10 rfl rfl (by decide) (by simp [Tryd.ntmps10]) ?_;rw [Tryd.ntmps10]
 repeat' (first|omega|(try apply yaa);simp only [go_sem,sevalprocAttr]|apply yad<;>(intro h_;(try simp only [h_]);revert h_)|apply yac|apply yab|apply gspI|apply And.intro|with_reducible intro h_|trivial|simp only [go_sem,la2];omega)
def grB (s m:List Int) (L:Int):Bool:=(decide (7<s.length)&&decide (s.length<=14))||(decide (60<m.length)||(decide (10<L)&&decide (L<=64)))
theorem yqy (s m:List Int) (L:Int):Fn Tryd.prog 7 [dgA s m L] (.bool (grB s m L)):=by
 have e1:decide ((7:Int)<s.length)=decide (7<s.length):=decide_eq_decide.2 (by omega)
 have e2:decide ((s.length:Int)<=14)=decide (s.length<=14):=decide_eq_decide.2 (by omega)
 have e3:decide ((60:Int)<m.length)=decide (60<m.length):=decide_eq_decide.2 (by omega)
 unfold grB
 generalize decide (7<s.length)=x1 at*
 generalize decide (s.length<=14)=x2 at*
 generalize decide (60<m.length)=x3 at*
 obtain ⟨x4,e4⟩: ∃x,decide (10<L)=x:=⟨_,rfl⟩
 obtain ⟨x5,e5⟩: ∃x,decide (L<=64)=x:=⟨_,rfl⟩
 rw [e4,e5]
 refine Fn.intro [.tmp 2] Tryd.func7 rfl rfl (by decide) (by simp [Tryd.ntmps7]) ?_;rw [Tryd.ntmps7]
 cases x1<;>cases x2<;>cases x3<;>cases x4<;>cases x5
 all_goals (repeat' (first|omega|(try apply yaa);simp only [go_sem,sevalprocAttr,e1,e2,e3,e4,e5]|apply yad<;>(intro h_;(try simp only [h_]);revert h_)|apply yac|apply yab|apply gspI|apply And.intro|with_reducible intro h_|trivial|simp only [go_sem,la2];omega))
theorem ywa (s m:List Int) (L:Int) (hv:yaj s m L=false):Fn Tryd.prog 8 [dgA s m L] (.tup [plA false [],I 1]):=by
 have hV:=yb6 s m L
 rw [hv] at hV
 refine Fn.introL [.cell 2 29, .tmp 3] Tryd.func8 rfl rfl (by decide) (by simp [Tryd.ntmps8]) ?_;rw [Tryd.ntmps8]
 repeat' (first|omega|(try apply yaa);simp only [go_sem,sevalprocAttr]|apply yad<;>(intro h_;(try simp only [h_]);revert h_)|apply yac|apply yab|apply gspI|apply And.intro|with_reducible intro h_|trivial|simp only [go_sem,la2];omega)
 all_goals refine ⟨yag.fn rfl hV ?_⟩
 all_goals (repeat' (first|omega|(try apply yaa);simp only [go_sem,sevalprocAttr]|apply yad<;>(intro h_;(try simp only [h_]);revert h_)|apply yac|apply yab|apply gspI|apply And.intro|with_reducible intro h_|trivial|simp only [go_sem,la2];omega))
 all_goals exact LeA.tupL (.cons ye6 (.cons (LeA.refl _) .nil))
theorem ywb (m:List Int) (hv:yaj [] m 0=true):Fn Tryd.prog 8 [dgA [] m 0] (.tup [plA false [],I 8]):=by
 have hV:=yb6 [] m 0
 rw [hv] at hV
 refine Fn.introL [.cell 2 29, .tmp 3] Tryd.func8 rfl rfl (by decide) (by simp [Tryd.ntmps8]) ?_;rw [Tryd.ntmps8]
 repeat' (first|omega|(try apply yaa);simp only [go_sem,sevalprocAttr]|apply yad<;>(intro h_;(try simp only [h_]);revert h_)|apply yac|apply yab|apply gspI|apply And.intro|with_reducible intro h_|trivial|simp only [go_sem,la2];omega)
 all_goals refine ⟨yag.fn rfl hV ?_⟩
 all_goals (repeat' (first|omega|(try apply yaa);simp only [go_sem,sevalprocAttr]|apply yad<;>(intro h_;(try simp only [h_]);revert h_)|apply yac|apply yab|apply gspI|apply And.intro|with_reducible intro h_|trivial|simp only [go_sem,la2];omega))
 all_goals exact LeA.tupL (.cons ye6 (.cons (LeA.refl _) .nil))
theorem ywc (s m:List Int) (L:Int) (hv:yaj s m L=true) (h:14<s.length):Fn Tryd.prog 8 [dgA s m L] (.tup [plA false [],I 5]):=by
 have hV:=yb6 s m L
 rw [hv] at hV
 have b0:((s.length:Int)==0)=false:=by rw [beq_eq_false_iff_ne];omega
 have b1:decide ((14:Int)<s.length)=true:=by rw [decide_eq_true_iff];omega
 refine Fn.introL [.cell 2 29, .tmp 3] Tryd.func8 rfl rfl (by decide) (by simp [Tryd.ntmps8]) ?_;rw [Tryd.ntmps8]
 repeat' (first|omega|(try apply yaa);simp only [go_sem,sevalprocAttr,b0,b1]|apply yad<;>(intro h_;(try simp only [h_]);revert h_)|apply yac|apply yab|apply gspI|apply And.intro|with_reducible intro h_|trivial|simp only [go_sem,la2];omega)
 all_goals refine ⟨yag.fn rfl hV ?_⟩
 all_goals (repeat' (first|omega|(try apply yaa);simp only [go_sem,sevalprocAttr,b0,b1]|apply yad<;>(intro h_;(try simp only [h_]);revert h_)|apply yac|apply yab|apply gspI|apply And.intro|with_reducible intro h_|trivial|simp only [go_sem,la2];omega))
 all_goals exact LeA.tupL (.cons ye6 (.cons (LeA.refl _) .nil))
theorem ywd (m:List Int) (L:Int) (p:List (Int×Int)) (n:Nat) (hv:yaj [] m L=true) (h0:0<L) (hr:rsM n [] m L=some p):Fn Tryd.prog 8 [dgA [] m L] (.tup [plA false p,I 0]):=by
 have hV:=yb6 [] m L
 rw [hv] at hV
 have hR:=yis n [] m L p hr
 have b0:(L==0)=false:=by rw [beq_eq_false_iff_ne];omega
 refine Fn.introL [.cell 2 29, .tmp 3] Tryd.func8 rfl rfl (by decide) (by simp [Tryd.ntmps8]) ?_;rw [Tryd.ntmps8]
 repeat' (first|omega|(try apply yaa);simp only [go_sem,sevalprocAttr,b0]|apply yad<;>(intro h_;(try simp only [h_]);revert h_)|apply yac|apply yab|apply gspI|apply And.intro|with_reducible intro h_|trivial|simp only [go_sem,la2];omega)
 all_goals refine ⟨yag.fn rfl hV ?_⟩
 all_goals (repeat' (first|omega|(try apply yaa);simp only [go_sem,sevalprocAttr,b0]|apply yad<;>(intro h_;(try simp only [h_]);revert h_)|apply yac|apply yab|apply gspI|apply And.intro|with_reducible intro h_|trivial|simp only [go_sem,la2];omega))
 all_goals refine ⟨yag.fn rfl hR ?_⟩
 all_goals (repeat' (first|omega|(try apply yaa);simp only [go_sem,sevalprocAttr,b0]|apply yad<;>(intro h_;(try simp only [h_]);revert h_)|apply yac|apply yab|apply gspI|apply And.intro|with_reducible intro h_|trivial|simp only [go_sem,la2];omega))
 all_goals exact LeA.refl _
end Go.Proofs.YtcnilhcplgiidaaDoor
