/- Layer 19: the polynomial, by as many steps as are granted. -/
import Derived.Test.YtcnilhcplgiidaaDoorZe
import Derived.Test.YtcnilhcplgiidaaDoorZg
set_option linter.unusedSimpArgs false
set_option linter.unusedVariables false
namespace Go.Proofs.YtcnilhcplgiidaaDoor
open Go Go.RowKit
set_option maxRecDepth 100000
set_option maxHeartbeats 8000000
def yar:Tr:= .node [(0, .node [(1, .node [(2, .node [(3, .node [(4, .done)])])]),(2, .node [(1, .node [(3, .node [(4, .done)])])])]),(2, .node [(0, .node [(1, .node [(3, .node [(4, .done)])])])])]
theorem ye6:LeA (.agg [.bool false, .nils]) (plA false []):=LeA.aggL (.cons (LeA.refl _) (.cons (LeA.nils (by omega) rfl) .nil))
theorem yis: ∀(n:Nat) (s m:List Int) (L:Int) (p:List (Int×Int)),rsM n s m L=some p->Fn Tryd.prog 33 [dgA s m L] (plA false p):=by
 intro n
 induction n with
 |zero=>intro s m L p h;simp [rsM] at h
 |succ n ih=>
  intro s m L p h
  unfold rsM at h
  split at h
  ·rename_i hc
   obtain rfl:[]=p:=by simpa using h
   have b1:decide (0<L)=true:=by simp;omega
   have b2:decide ((0:Int)<s.length)=true:=by simp;omega
   refine Fn.introL [.cell 2 29] Tryd.func33 rfl rfl (by decide) (by simp [Tryd.ntmps33]) ?_;rw [Tryd.ntmps33]
   repeat' (first|omega|(first|apply yaa|(refine yaf.intro (id:=11) [[46],[46],[44,45],[],[]] [[],[],[0,1],[],[]] (by decide+kernel) mixed ?_)|(refine yaf.introT (id:=11) (yar) (by decide+kernel) mixed ?_)|skip);simp only [go_sem,sevalprocAttr,b1,b2,↓reduceIte,reduceCtorEq,yar]|apply yad<;>(intro h_;(try simp only [h_]);revert h_)|apply yac|apply yab|apply gspI|apply And.intro|with_reducible intro h_|trivial|simp only [go_sem,la2];omega)
   all_goals exact ye6
  rename_i hns
  split at h
  case isFalse=>cases h
  rename_i hL
  have hR:=yqv s m L (fun _=>hL)
  have hC:=yeu s m L
  unfold resA at hR
  split at h
  case isFalse=>
   rename_i hv
   obtain rfl:[]=p:=by simpa using h
   rw [if_neg hv] at hR hC
   refine Fn.introL [.cell 2 29] Tryd.func33 rfl rfl (by decide) (by simp [Tryd.ntmps33]) ?_;rw [Tryd.ntmps33]
   repeat' (first|omega|(try apply yaa);simp only [go_sem,sevalprocAttr]|apply yad<;>(intro h_;(try simp only [h_]);revert h_)|apply yac|apply yab|apply gspI|apply And.intro|with_reducible intro h_|trivial|simp only [go_sem,la2];omega)
   all_goals refine ⟨yag.fn rfl hR ?_⟩
   all_goals (repeat' (first|omega|(first|apply yaa|(refine yaf.intro (id:=11) [[46],[46],[44,45],[],[]] [[],[],[0,1],[],[]] (by decide+kernel) mixed ?_)|(refine yaf.introT (id:=11) (yar) (by decide+kernel) mixed ?_)|skip);simp only [go_sem,sevalprocAttr,↓reduceIte,reduceCtorEq,yar]|apply yad<;>(intro h_;(try simp only [h_]);revert h_)|apply yac|apply yab|apply gspI|apply And.intro|with_reducible intro h_|trivial|simp only [go_sem,la2];omega))
   all_goals refine ⟨yag.fn rfl hC ?_⟩
   all_goals (repeat' (first|omega|(first|apply yaa|(refine yaf.intro (id:=11) [[46],[46],[44,45],[],[]] [[],[],[0,1],[],[]] (by decide+kernel) mixed ?_)|(refine yaf.introT (id:=11) (yar) (by decide+kernel) mixed ?_)|skip);simp only [go_sem,sevalprocAttr,↓reduceIte,reduceCtorEq,yar]|apply yad<;>(intro h_;(try simp only [h_]);revert h_)|apply yac|apply yab|apply gspI|apply And.intro|with_reducible intro h_|trivial|simp only [go_sem,la2];omega))
   all_goals exact ye6
  rename_i hv
  rw [if_pos hv] at hR hC
  have v1:=yat hv
  cases hbo:badO s m with
  |none=>
   rw [hbo] at hR h
   simp only at hR h
   refine Fn.introL [.cell 2 29] Tryd.func33 rfl rfl (by decide) (by simp [Tryd.ntmps33]) ?_;rw [Tryd.ntmps33]
   split at h
   ·rename_i he
    obtain rfl:=Option.some.inj h
    rw [he] at hC
    repeat' (first|omega|(try apply yaa);simp only [go_sem,sevalprocAttr]|apply yad<;>(intro h_;(try simp only [h_]);revert h_)|apply yac|apply yab|apply gspI|apply And.intro|with_reducible intro h_|trivial|simp only [go_sem,la2];omega)
    all_goals refine ⟨yag.fn rfl hR ?_⟩
    all_goals (repeat' (first|omega|(first|apply yaa|(refine yaf.intro (id:=11) [[46],[46],[44,45],[],[]] [[],[],[0,1],[],[]] (by decide+kernel) mixed ?_)|(refine yaf.introT (id:=11) (yar) (by decide+kernel) mixed ?_)|skip);simp only [go_sem,sevalprocAttr,↓reduceIte,reduceCtorEq,yar]|apply yad<;>(intro h_;(try simp only [h_]);revert h_)|apply yac|apply yab|apply gspI|apply And.intro|with_reducible intro h_|trivial|simp only [go_sem,la2];omega))
    all_goals refine ⟨yag.fn rfl hC ?_⟩
    all_goals (repeat' (first|omega|(first|apply yaa|(refine yaf.intro (id:=11) [[46],[46],[44,45],[],[]] [[],[],[0,1],[],[]] (by decide+kernel) mixed ?_)|(refine yaf.introT (id:=11) (yar) (by decide+kernel) mixed ?_)|skip);simp only [go_sem,sevalprocAttr,↓reduceIte,reduceCtorEq,yar]|apply yad<;>(intro h_;(try simp only [h_]);revert h_)|apply yac|apply yab|apply gspI|apply And.intro|with_reducible intro h_|trivial|simp only [go_sem,la2];omega))
    all_goals refine ⟨yag.frz [4] rfl (by simp only [go_sem,sevalprocAttr]) (by simp only [go_sem,sevalprocAttr]) (by simp only [go_sem,sevalprocAttr]) (by simp only [go_sem,sevalprocAttr]) rfl rfl rfl (yag.fn rfl yy1 ?_)⟩
    all_goals (repeat' (first|omega|(first|apply yaa|(refine yaf.intro (id:=11) [[46],[46],[44,45],[],[]] [[],[],[0,1],[],[]] (by decide+kernel) mixed ?_)|(refine yaf.introT (id:=11) (yar) (by decide+kernel) mixed ?_)|skip);simp only [go_sem,sevalprocAttr,↓reduceIte,reduceCtorEq,yar]|apply yad<;>(intro h_;(try simp only [h_]);revert h_)|apply yac|apply yab|apply gspI|apply And.intro|with_reducible intro h_|trivial|simp only [go_sem,la2];omega))
    all_goals exact LeA.refl _
   ·rename_i he
    obtain rfl:=Option.some.inj h
    have be:(((yae s m).length:Int)+L==1)=false:=by simpa using he
    repeat' (first|omega|(try apply yaa);simp only [go_sem,sevalprocAttr]|apply yad<;>(intro h_;(try simp only [h_]);revert h_)|apply yac|apply yab|apply gspI|apply And.intro|with_reducible intro h_|trivial|simp only [go_sem,la2];omega)
    all_goals refine ⟨yag.fn rfl hR ?_⟩
    all_goals (repeat' (first|omega|(first|apply yaa|(refine yaf.intro (id:=11) [[46],[46],[44,45],[],[]] [[],[],[0,1],[],[]] (by decide+kernel) mixed ?_)|(refine yaf.introT (id:=11) (yar) (by decide+kernel) mixed ?_)|skip);simp only [go_sem,sevalprocAttr,↓reduceIte,reduceCtorEq,yar]|apply yad<;>(intro h_;(try simp only [h_]);revert h_)|apply yac|apply yab|apply gspI|apply And.intro|with_reducible intro h_|trivial|simp only [go_sem,la2];omega))
    all_goals refine ⟨yag.fn rfl hC ?_⟩
    all_goals (repeat' (first|omega|(first|apply yaa|(refine yaf.intro (id:=11) [[46],[46],[44,45],[],[]] [[],[],[0,1],[],[]] (by decide+kernel) mixed ?_)|(refine yaf.introT (id:=11) (yar) (by decide+kernel) mixed ?_)|skip);simp only [go_sem,sevalprocAttr,be,↓reduceIte,reduceCtorEq,yar]|apply yad<;>(intro h_;(try simp only [h_]);revert h_)|apply yac|apply yab|apply gspI|apply And.intro|with_reducible intro h_|trivial|simp only [go_sem,la2];omega))
    all_goals exact ye6
  |some c=>
   rw [hbo] at hR h
   simp only at hR h
   obtain ⟨c0,c1⟩:=yfl v1.prd hbo
   obtain ⟨c,rfl⟩: ∃n:Nat,c=n:=⟨c.toNat,by omega⟩
   simp only [Int.toNat_natCast] at hR h
   split at h
   case h_2=>cases h
   rename_i p1 q1 h1 h2
   split at h
   case isFalse=>cases h
   rename_i hok
   simp only [Bool.and_eq_true] at hok
   obtain ⟨⟨⟨⟨⟨g1,g2⟩,g3⟩,g4⟩,g5⟩,g6⟩:=hok
   have f1:=ih _ _ _ _ h1
   have f2:=ih _ _ _ _ h2
   obtain rfl:=Option.some.inj h
   have hsh:=yv5 p1 1 (by omega) (by omega) (fun t ht=>by have:=ywt g1 t ht;omega) (fun t ht=>by have:=ywt g1 t ht;unfold fitB;simp;omega) (y1d g1) (yl6 g1)
   have hN:=y0h (shP 1 p1) (yqw g2) (yl6 g2) (by rw [←yci negF (shP 1 p1).length [] (shP 1 p1) (by simp)];exact g3)
   rw [←yci negF (shP 1 p1).length [] (shP 1 p1) (by simp)] at hN
   have hA:=y0g q1 (yei (decide (s.getD c 0<0)) (shP 1 p1)) (yqw g5) (yqw g4) (yl6 g5) (yl6 g4) (by rw [←yci addF _ q1 _ (Nat.le_refl _)];exact g6)
   rw [←yci addF _ q1 _ (Nat.le_refl _)] at hA
   have hcl:c<s.length:=by omega
   by_cases hsg:s.getD c 0<0
   ·have bs:decide (s.getD c 0<0)=true:=by simpa using hsg
    rw [bs] at hA⊢
    refine Fn.introL [.cell 2 29] Tryd.func33 rfl rfl (by decide) (by simp [Tryd.ntmps33]) ?_;rw [Tryd.ntmps33]
    repeat' (first|omega|(try apply yaa);simp only [go_sem,sevalprocAttr]|apply yad<;>(intro h_;(try simp only [h_]);revert h_)|apply yac|apply yab|apply gspI|apply And.intro|with_reducible intro h_|trivial|simp only [go_sem,la2];omega)
    all_goals refine ⟨yag.fn rfl hR ?_⟩
    all_goals (repeat' (first|omega|(first|apply yaa|(refine yaf.intro (id:=11) [[46],[46],[44,45],[],[]] [[],[],[0,1],[],[]] (by decide+kernel) mixed ?_)|(refine yaf.introT (id:=11) (yar) (by decide+kernel) mixed ?_)|skip);simp only [go_sem,sevalprocAttr,↓reduceIte,reduceCtorEq,yar]|apply yad<;>(intro h_;(try simp only [h_]);revert h_)|apply yac|apply yab|apply gspI|apply And.intro|with_reducible intro h_|trivial|simp only [go_sem,la2];omega))
    all_goals refine ⟨yag.fn rfl f1 ?_⟩
    all_goals (repeat' (first|omega|(first|apply yaa|(refine yaf.intro (id:=11) [[46],[46],[44,45],[],[]] [[],[],[0,1],[],[]] (by decide+kernel) mixed ?_)|(refine yaf.introT (id:=11) (yar) (by decide+kernel) mixed ?_)|skip);simp only [go_sem,sevalprocAttr,↓reduceIte,reduceCtorEq,yar]|apply yad<;>(intro h_;(try simp only [h_]);revert h_)|apply yac|apply yab|apply gspI|apply And.intro|with_reducible intro h_|trivial|simp only [go_sem,la2];omega))
    all_goals refine ⟨yag.fn rfl hsh ?_⟩
    all_goals (repeat' (first|omega|(first|apply yaa|(refine yaf.intro (id:=11) [[46],[46],[44,45],[],[]] [[],[],[0,1],[],[]] (by decide+kernel) mixed ?_)|(refine yaf.introT (id:=11) (yar) (by decide+kernel) mixed ?_)|skip);simp only [go_sem,sevalprocAttr,bs,↓reduceIte,reduceCtorEq,yar]|apply yad<;>(intro h_;(try simp only [h_]);revert h_)|apply yac|apply yab|apply gspI|apply And.intro|with_reducible intro h_|trivial|simp only [go_sem,la2];omega))
    all_goals refine ⟨yag.fn rfl hN ?_⟩
    all_goals (repeat' (first|omega|(first|apply yaa|(refine yaf.intro (id:=11) [[46],[46],[44,45],[],[]] [[],[],[0,1],[],[]] (by decide+kernel) mixed ?_)|(refine yaf.introT (id:=11) (yar) (by decide+kernel) mixed ?_)|skip);simp only [go_sem,sevalprocAttr,↓reduceIte,reduceCtorEq,yar]|apply yad<;>(intro h_;(try simp only [h_]);revert h_)|apply yac|apply yab|apply gspI|apply And.intro|with_reducible intro h_|trivial|simp only [go_sem,la2];omega))
    all_goals refine ⟨yaw.fn rfl f2 ?_⟩
    all_goals (repeat' (first|omega|(first|apply yaa|(refine yaf.intro (id:=11) [[46],[46],[44,45],[],[]] [[],[],[0,1],[],[]] (by decide+kernel) mixed ?_)|(refine yaf.introT (id:=11) (yar) (by decide+kernel) mixed ?_)|skip);simp only [go_sem,sevalprocAttr,↓reduceIte,reduceCtorEq,yar]|apply yad<;>(intro h_;(try simp only [h_]);revert h_)|apply yac|apply yab|apply gspI|apply And.intro|with_reducible intro h_|trivial|simp only [go_sem,la2];omega))
    all_goals refine ⟨yaw.fn rfl hA ?_⟩
    all_goals (repeat' (first|omega|(first|apply yaa|(refine yaf.intro (id:=11) [[46],[46],[44,45],[],[]] [[],[],[0,1],[],[]] (by decide+kernel) mixed ?_)|(refine yaf.introT (id:=11) (yar) (by decide+kernel) mixed ?_)|skip);simp only [go_sem,sevalprocAttr,↓reduceIte,reduceCtorEq,yar]|apply yad<;>(intro h_;(try simp only [h_]);revert h_)|apply yac|apply yab|apply gspI|apply And.intro|with_reducible intro h_|trivial|simp only [go_sem,la2];omega))
    all_goals exact LeA.refl _
   ·have bs:decide (s.getD c 0<0)=false:=by simpa using hsg
    rw [bs] at hA⊢
    have e:yei false (shP 1 p1)=shP 1 p1:=rfl
    rw [e] at hA⊢
    refine Fn.introL [.cell 2 29] Tryd.func33 rfl rfl (by decide) (by simp [Tryd.ntmps33]) ?_;rw [Tryd.ntmps33]
    repeat' (first|omega|(try apply yaa);simp only [go_sem,sevalprocAttr]|apply yad<;>(intro h_;(try simp only [h_]);revert h_)|apply yac|apply yab|apply gspI|apply And.intro|with_reducible intro h_|trivial|simp only [go_sem,la2];omega)
    all_goals refine ⟨yag.fn rfl hR ?_⟩
    all_goals (repeat' (first|omega|(first|apply yaa|(refine yaf.intro (id:=11) [[46],[46],[44,45],[],[]] [[],[],[0,1],[],[]] (by decide+kernel) mixed ?_)|(refine yaf.introT (id:=11) (yar) (by decide+kernel) mixed ?_)|skip);simp only [go_sem,sevalprocAttr,↓reduceIte,reduceCtorEq,yar]|apply yad<;>(intro h_;(try simp only [h_]);revert h_)|apply yac|apply yab|apply gspI|apply And.intro|with_reducible intro h_|trivial|simp only [go_sem,la2];omega))
    all_goals refine ⟨yag.fn rfl f1 ?_⟩
    all_goals (repeat' (first|omega|(first|apply yaa|(refine yaf.intro (id:=11) [[46],[46],[44,45],[],[]] [[],[],[0,1],[],[]] (by decide+kernel) mixed ?_)|(refine yaf.introT (id:=11) (yar) (by decide+kernel) mixed ?_)|skip);simp only [go_sem,sevalprocAttr,↓reduceIte,reduceCtorEq,yar]|apply yad<;>(intro h_;(try simp only [h_]);revert h_)|apply yac|apply yab|apply gspI|apply And.intro|with_reducible intro h_|trivial|simp only [go_sem,la2];omega))
    all_goals refine ⟨yag.fn rfl hsh ?_⟩
    all_goals (repeat' (first|omega|(first|apply yaa|(refine yaf.intro (id:=11) [[46],[46],[44,45],[],[]] [[],[],[0,1],[],[]] (by decide+kernel) mixed ?_)|(refine yaf.introT (id:=11) (yar) (by decide+kernel) mixed ?_)|skip);simp only [go_sem,sevalprocAttr,bs,↓reduceIte,reduceCtorEq,yar]|apply yad<;>(intro h_;(try simp only [h_]);revert h_)|apply yac|apply yab|apply gspI|apply And.intro|with_reducible intro h_|trivial|simp only [go_sem,la2];omega))
    all_goals refine ⟨yaw.fn rfl f2 ?_⟩
    all_goals (repeat' (first|omega|(first|apply yaa|(refine yaf.intro (id:=11) [[46],[46],[44,45],[],[]] [[],[],[0,1],[],[]] (by decide+kernel) mixed ?_)|(refine yaf.introT (id:=11) (yar) (by decide+kernel) mixed ?_)|skip);simp only [go_sem,sevalprocAttr,↓reduceIte,reduceCtorEq,yar]|apply yad<;>(intro h_;(try simp only [h_]);revert h_)|apply yac|apply yab|apply gspI|apply And.intro|with_reducible intro h_|trivial|simp only [go_sem,la2];omega))
    all_goals refine ⟨yaw.fn rfl hA ?_⟩
    all_goals (repeat' (first|omega|(first|apply yaa|(refine yaf.intro (id:=11) [[46],[46],[44,45],[],[]] [[],[],[0,1],[],[]] (by decide+kernel) mixed ?_)|(refine yaf.introT (id:=11) (yar) (by decide+kernel) mixed ?_)|skip);simp only [go_sem,sevalprocAttr,↓reduceIte,reduceCtorEq,yar]|apply yad<;>(intro h_;(try simp only [h_]);revert h_)|apply yac|apply yab|apply gspI|apply And.intro|with_reducible intro h_|trivial|simp only [go_sem,la2];omega))
    all_goals exact LeA.refl _
def trS:List Int:=[1,1,1]
def trM:List Int:=[9,4,7,10,1,8,11,2,5,0,3,6]
theorem yy2:rsM 8 trS trM 0=some [(0,1),(2,1)]:=by decide+kernel
theorem yne:yaj trS trM 0=true:=by decide+kernel
theorem yv6:badO trS trM=some 1:=by decide+kernel
end Go.Proofs.YtcnilhcplgiidaaDoor
set_option linter.unusedSimpArgs false
set_option linter.unusedVariables false
namespace Go.Proofs.YtcnilhcplgiidaaDoor
open Go Go.RowKit
set_option maxRecDepth 100000
set_option maxHeartbeats 8000000
theorem yj9:Fn Tryd.prog 30 [] (dgA trS trM 0):=by
 refine Fn.introL [.cell 0 24] Tryd.func30 rfl rfl (by decide) (by simp [Tryd.ntmps30]) ?_;rw [Tryd.ntmps30]
 repeat' (first|omega|(try apply yaa);simp only [go_sem,sevalprocAttr]|apply yad<;>(intro h_;(try simp only [h_]);revert h_)|apply yac|apply yab|apply gspI|apply And.intro|with_reducible intro h_|trivial|simp only [go_sem,la2];omega)
 all_goals exact LeA.refl _
theorem ynf (s m:List Int) (L:Int) (p:List (Int×Int)) (n:Nat) (hv:yaj s m L=true) (h0:0<s.length) (h1:s.length<=14) (hr:rsM n s m L=some p):Fn Tryd.prog 8 [dgA s m L] (.tup [plA false p,I 0]):=by
 have hV:=yb6 s m L
 rw [hv] at hV
 have hR:=yis n s m L p hr
 have b0:((s.length:Int)==0)=false:=by simp;intro e;subst e;simp at h0
 have b1:decide ((14:Int)<s.length)=false:=by simp;omega
 refine Fn.introL [.cell 2 29, .tmp 3] Tryd.func8 rfl rfl (by decide) (by simp [Tryd.ntmps8]) ?_;rw [Tryd.ntmps8]
 repeat' (first|omega|(try apply yaa);simp only [go_sem,sevalprocAttr,b0,b1]|apply yad<;>(intro h_;(try simp only [h_]);revert h_)|apply yac|apply yab|apply gspI|apply And.intro|with_reducible intro h_|trivial|simp only [go_sem,la2];omega)
 all_goals refine ⟨yag.fn rfl hV ?_⟩
 all_goals (repeat' (first|omega|(try apply yaa);simp only [go_sem,sevalprocAttr,b0,b1]|apply yad<;>(intro h_;(try simp only [h_]);revert h_)|apply yac|apply yab|apply gspI|apply And.intro|with_reducible intro h_|trivial|simp only [go_sem,la2];omega))
 all_goals refine ⟨yag.fn rfl hR ?_⟩
 all_goals (repeat' (first|omega|(try apply yaa);simp only [go_sem,sevalprocAttr,b0,b1]|apply yad<;>(intro h_;(try simp only [h_]);revert h_)|apply yac|apply yab|apply gspI|apply And.intro|with_reducible intro h_|trivial|simp only [go_sem,la2];omega))
 all_goals exact LeA.refl _
theorem yv7 (hT:Fn Tryd.prog 32 [plA false [(0,1),(2,1)], .str ⟨#[122]⟩] (.str ⟨#[49,43,122,94,50]⟩)):Fn Tryd.prog 6 [] (.bool true):=by
 have hP:=ynf trS trM 0 _ 8 yne (by decide) (by decide) yy2
 have hD:=yg4 trS trM 0
 unfold yj5 at hD
 rw [yne,yv6] at hD
 simp only [if_true] at hD
 refine Fn.introL [.tmp 0] Tryd.func6 rfl rfl (by decide) (by simp [Tryd.ntmps6]) ?_;rw [Tryd.ntmps6]
 repeat' (first|omega|(try apply yaa);simp only [go_sem,sevalprocAttr]|apply yad<;>(intro h_;(try simp only [h_]);revert h_)|apply yac|apply yab|apply gspI|apply And.intro|with_reducible intro h_|trivial|simp only [go_sem,la2];omega)
 all_goals refine ⟨yag.fn rfl yj9 ?_⟩
 all_goals (repeat' (first|omega|(try apply yaa);simp only [go_sem,sevalprocAttr]|apply yad<;>(intro h_;(try simp only [h_]);revert h_)|apply yac|apply yab|apply gspI|apply And.intro|with_reducible intro h_|trivial|simp only [go_sem,la2];omega))
 all_goals refine ⟨yag.fn rfl hP ?_⟩
 all_goals (repeat' (first|omega|(try apply yaa);simp only [go_sem,sevalprocAttr]|apply yad<;>(intro h_;(try simp only [h_]);revert h_)|apply yac|apply yab|apply gspI|apply And.intro|with_reducible intro h_|trivial|simp only [go_sem,la2];omega))
 all_goals refine ⟨yag.fn rfl yj9 ?_⟩
 all_goals (repeat' (first|omega|(try apply yaa);simp only [go_sem,sevalprocAttr]|apply yad<;>(intro h_;(try simp only [h_]);revert h_)|apply yac|apply yab|apply gspI|apply And.intro|with_reducible intro h_|trivial|simp only [go_sem,la2];omega))
 all_goals refine ⟨yag.fn rfl hD ?_⟩
 all_goals (repeat' (first|omega|(try apply yaa);simp only [go_sem,sevalprocAttr]|apply yad<;>(intro h_;(try simp only [h_]);revert h_)|apply yac|apply yab|apply gspI|apply And.intro|with_reducible intro h_|trivial|simp only [go_sem,la2];omega))
 all_goals refine ⟨yag.fn rfl hT ?_⟩
 all_goals (repeat' (first|omega|(try apply yaa);simp only [go_sem,sevalprocAttr]|apply yad<;>(intro h_;(try simp only [h_]);revert h_)|apply yac|apply yab|apply gspI|apply And.intro|with_reducible intro h_|trivial|simp only [go_sem,la2];omega))
 all_goals exact LeA.refl _
end Go.Proofs.YtcnilhcplgiidaaDoor
