/- Layer 19: the polynomial, by as many steps as are granted. -/
import Derived.Test.YtbblgobamoabkaaGreatDoorZt
import Derived.Test.YtbblgobamoabkaaGreatDoorZvc
import Derived.Test.YtbblgobamoabkaaGreatDoorZl
import Derived.Test.YtbblgobamoabkaaGreatDoorZd
import Derived.Test.YtbblgobamoabkaaGreatDoorZx
set_option linter.unusedSimpArgs false
set_option linter.unusedVariables false
namespace Go.Proofs.YtbblgobamoabkaaGreatDoor
open Go Go.RowKit
set_option maxRecDepth 100000
set_option maxHeartbeats 8000000
def yaw:Tr:= .node [(0, .node [(1,trD [2,3,4]),(2,trD [1,3,4])]),(2,trD [0,1,3,4])]
theorem ynl:LeA (.agg [.bool false, .nils]) (plA false []):=LeA.aggL (.cons (LeA.refl _) (.cons (LeA.nils (by omega) rfl) .nil))
theorem ykk: ∀(n:Nat) (s m:List Int) (L:Int) (p:List (Int×Int)),rsM n s m L=some p->Fn Tryz.prog 64 [dgA s m L] (plA false p):=by
 intro n
 induction n with
 |zero=>intro s m L p h;simp [rsM] at h
 |succ n ih=>
  intro s m L p h
  unfold rsM at h
  split at h
  ·rename_i hc
   obtain rfl:[]=p:=by simpa using h
   have b1:decide (0<L)=true:=by simp;omega
   have b2:decide ((0:Int)<s.length)=true:=by simp;omega
   refine Fn.introL [.cell 2 47] Tryz.func64 rfl rfl (by decide) (by simp [Tryz.ntmps64]) ?_;rw [Tryz.ntmps64]
   repeat' (first|omega|(first|apply yaa|(refine yac.intro (id:=11) [[46],[46],[44,45],[],[]] [[],[],[0,1],[],[]] (by decide+kernel) mixed ?_)|(refine yac.introT (id:=11) (yaw) (by decide+kernel) mixed ?_)|skip);simp only [go_sem,sevalprocAttr,b1,b2,↓reduceIte,reduceCtorEq,yaw]|apply yab<;>(intro h_;(try simp only [h_]);revert h_)|apply And.intro|with_reducible intro h_|trivial|simp only [go_sem,la2];omega)
   all_goals exact ynl
  rename_i hns
  split at h
  case isFalse=>cases h
  rename_i hL
  have hR:=yie s m L (fun _=>hL)
  have hC:=yij s m L
  unfold resA at hR
  split at h
  case isFalse=>
   rename_i hv
   obtain rfl:[]=p:=by simpa using h
   rw [if_neg hv] at hR hC
   refine Fn.introL [.cell 2 47] Tryz.func64 rfl rfl (by decide) (by simp [Tryz.ntmps64]) ?_;rw [Tryz.ntmps64]
   repeat' (first|omega|(try apply yaa);simp only [go_sem,sevalprocAttr]|apply yab<;>(intro h_;(try simp only [h_]);revert h_)|apply And.intro|with_reducible intro h_|trivial|simp only [go_sem,la2];omega)
   all_goals refine ⟨yad.fn rfl hR ?_⟩
   all_goals (repeat' (first|omega|(first|apply yaa|(refine yac.intro (id:=11) [[46],[46],[44,45],[],[]] [[],[],[0,1],[],[]] (by decide+kernel) mixed ?_)|(refine yac.introT (id:=11) (yaw) (by decide+kernel) mixed ?_)|skip);simp only [go_sem,sevalprocAttr,↓reduceIte,reduceCtorEq,yaw]|apply yab<;>(intro h_;(try simp only [h_]);revert h_)|apply And.intro|with_reducible intro h_|trivial|simp only [go_sem,la2];omega))
   all_goals refine ⟨yad.fn rfl hC ?_⟩
   all_goals (repeat' (first|omega|(first|apply yaa|(refine yac.intro (id:=11) [[46],[46],[44,45],[],[]] [[],[],[0,1],[],[]] (by decide+kernel) mixed ?_)|(refine yac.introT (id:=11) (yaw) (by decide+kernel) mixed ?_)|skip);simp only [go_sem,sevalprocAttr,↓reduceIte,reduceCtorEq,yaw]|apply yab<;>(intro h_;(try simp only [h_]);revert h_)|apply And.intro|with_reducible intro h_|trivial|simp only [go_sem,la2];omega))
   all_goals exact ynl
  rename_i hv
  rw [if_pos hv] at hR hC
  have v1:=yas hv
  cases hbo:badO s m with
  |none=>
   rw [hbo] at hR h
   simp only at hR h
   refine Fn.introL [.cell 2 47] Tryz.func64 rfl rfl (by decide) (by simp [Tryz.ntmps64]) ?_;rw [Tryz.ntmps64]
   split at h
   ·rename_i he
    obtain rfl:=Option.some.inj h
    rw [he] at hC
    repeat' (first|omega|(try apply yaa);simp only [go_sem,sevalprocAttr]|apply yab<;>(intro h_;(try simp only [h_]);revert h_)|apply And.intro|with_reducible intro h_|trivial|simp only [go_sem,la2];omega)
    all_goals refine ⟨yad.fn rfl hR ?_⟩
    all_goals (repeat' (first|omega|(first|apply yaa|(refine yac.intro (id:=11) [[46],[46],[44,45],[],[]] [[],[],[0,1],[],[]] (by decide+kernel) mixed ?_)|(refine yac.introT (id:=11) (yaw) (by decide+kernel) mixed ?_)|skip);simp only [go_sem,sevalprocAttr,↓reduceIte,reduceCtorEq,yaw]|apply yab<;>(intro h_;(try simp only [h_]);revert h_)|apply And.intro|with_reducible intro h_|trivial|simp only [go_sem,la2];omega))
    all_goals refine ⟨yad.fn rfl hC ?_⟩
    all_goals (repeat' (first|omega|(first|apply yaa|(refine yac.intro (id:=11) [[46],[46],[44,45],[],[]] [[],[],[0,1],[],[]] (by decide+kernel) mixed ?_)|(refine yac.introT (id:=11) (yaw) (by decide+kernel) mixed ?_)|skip);simp only [go_sem,sevalprocAttr,↓reduceIte,reduceCtorEq,yaw]|apply yab<;>(intro h_;(try simp only [h_]);revert h_)|apply And.intro|with_reducible intro h_|trivial|simp only [go_sem,la2];omega))
    all_goals refine ⟨yad.frz [4] rfl (by simp only [go_sem,sevalprocAttr]) (by simp only [go_sem,sevalprocAttr]) (by simp only [go_sem,sevalprocAttr]) (by simp only [go_sem,sevalprocAttr]) rfl rfl rfl (yad.fn rfl y56 ?_)⟩
    all_goals (repeat' (first|omega|(first|apply yaa|(refine yac.intro (id:=11) [[46],[46],[44,45],[],[]] [[],[],[0,1],[],[]] (by decide+kernel) mixed ?_)|(refine yac.introT (id:=11) (yaw) (by decide+kernel) mixed ?_)|skip);simp only [go_sem,sevalprocAttr,↓reduceIte,reduceCtorEq,yaw]|apply yab<;>(intro h_;(try simp only [h_]);revert h_)|apply And.intro|with_reducible intro h_|trivial|simp only [go_sem,la2];omega))
    all_goals exact LeA.refl _
   ·rename_i he
    obtain rfl:=Option.some.inj h
    have be:(((yaj s m).length:Int)+L==1)=false:=by simpa using he
    repeat' (first|omega|(try apply yaa);simp only [go_sem,sevalprocAttr]|apply yab<;>(intro h_;(try simp only [h_]);revert h_)|apply And.intro|with_reducible intro h_|trivial|simp only [go_sem,la2];omega)
    all_goals refine ⟨yad.fn rfl hR ?_⟩
    all_goals (repeat' (first|omega|(first|apply yaa|(refine yac.intro (id:=11) [[46],[46],[44,45],[],[]] [[],[],[0,1],[],[]] (by decide+kernel) mixed ?_)|(refine yac.introT (id:=11) (yaw) (by decide+kernel) mixed ?_)|skip);simp only [go_sem,sevalprocAttr,↓reduceIte,reduceCtorEq,yaw]|apply yab<;>(intro h_;(try simp only [h_]);revert h_)|apply And.intro|with_reducible intro h_|trivial|simp only [go_sem,la2];omega))
    all_goals refine ⟨yad.fn rfl hC ?_⟩
    all_goals (repeat' (first|omega|(first|apply yaa|(refine yac.intro (id:=11) [[46],[46],[44,45],[],[]] [[],[],[0,1],[],[]] (by decide+kernel) mixed ?_)|(refine yac.introT (id:=11) (yaw) (by decide+kernel) mixed ?_)|skip);simp only [go_sem,sevalprocAttr,be,↓reduceIte,reduceCtorEq,yaw]|apply yab<;>(intro h_;(try simp only [h_]);revert h_)|apply And.intro|with_reducible intro h_|trivial|simp only [go_sem,la2];omega))
    all_goals exact ynl
  |some c=>
   rw [hbo] at hR h
   simp only at hR h
   obtain ⟨c0,c1⟩:=yh7 v1.prd hbo
   obtain ⟨c,rfl⟩: ∃n:Nat,c=n:=⟨c.toNat,by omega⟩
   simp only [Int.toNat_natCast] at hR h
   split at h
   case h_2=>cases h
   rename_i p1 q1 h1 h2
   split at h
   case isFalse=>cases h
   rename_i hok
   simp only [Bool.and_eq_true] at hok
   obtain ⟨⟨⟨⟨⟨g1,g2⟩,g3⟩,g4⟩,g5⟩,g6⟩:=hok
   have f1:=ih _ _ _ _ h1
   have f2:=ih _ _ _ _ h2
   obtain rfl:=Option.some.inj h
   have hsh:=y2i p1 1 (by omega) (by omega) (fun t ht=>by have:=y2q g1 t ht;omega) (fun t ht=>by have:=y2q g1 t ht;unfold fitB;simp;omega) (y8e g1) (yos g1)
   have hN:=y7j (shP 1 p1) (yuz g2) (yos g2) (by rw [←yc0 negF (shP 1 p1).length [] (shP 1 p1) (by simp)];exact g3)
   rw [←yc0 negF (shP 1 p1).length [] (shP 1 p1) (by simp)] at hN
   have hA:=yy7 q1 (yff (decide (s.getD c 0<0)) (shP 1 p1)) (yuz g5) (yuz g4) (yos g5) (yos g4) (by rw [←yc0 addF _ q1 _ (Nat.le_refl _)];exact g6)
   rw [←yc0 addF _ q1 _ (Nat.le_refl _)] at hA
   have hcl:c<s.length:=by omega
   by_cases hsg:s.getD c 0<0
   ·have bs:decide (s.getD c 0<0)=true:=by simpa using hsg
    rw [bs] at hA⊢
    refine Fn.introL [.cell 2 47] Tryz.func64 rfl rfl (by decide) (by simp [Tryz.ntmps64]) ?_;rw [Tryz.ntmps64]
    repeat' (first|omega|(try apply yaa);simp only [go_sem,sevalprocAttr]|apply yab<;>(intro h_;(try simp only [h_]);revert h_)|apply And.intro|with_reducible intro h_|trivial|simp only [go_sem,la2];omega)
    all_goals refine ⟨yad.fn rfl hR ?_⟩
    all_goals (repeat' (first|omega|(first|apply yaa|(refine yac.intro (id:=11) [[46],[46],[44,45],[],[]] [[],[],[0,1],[],[]] (by decide+kernel) mixed ?_)|(refine yac.introT (id:=11) (yaw) (by decide+kernel) mixed ?_)|skip);simp only [go_sem,sevalprocAttr,↓reduceIte,reduceCtorEq,yaw]|apply yab<;>(intro h_;(try simp only [h_]);revert h_)|apply And.intro|with_reducible intro h_|trivial|simp only [go_sem,la2];omega))
    all_goals refine ⟨yad.fn rfl f1 ?_⟩
    all_goals (repeat' (first|omega|(first|apply yaa|(refine yac.intro (id:=11) [[46],[46],[44,45],[],[]] [[],[],[0,1],[],[]] (by decide+kernel) mixed ?_)|(refine yac.introT (id:=11) (yaw) (by decide+kernel) mixed ?_)|skip);simp only [go_sem,sevalprocAttr,↓reduceIte,reduceCtorEq,yaw]|apply yab<;>(intro h_;(try simp only [h_]);revert h_)|apply And.intro|with_reducible intro h_|trivial|simp only [go_sem,la2];omega))
    all_goals refine ⟨yad.fn rfl hsh ?_⟩
    all_goals (repeat' (first|omega|(first|apply yaa|(refine yac.intro (id:=11) [[46],[46],[44,45],[],[]] [[],[],[0,1],[],[]] (by decide+kernel) mixed ?_)|(refine yac.introT (id:=11) (yaw) (by decide+kernel) mixed ?_)|skip);simp only [go_sem,sevalprocAttr,bs,↓reduceIte,reduceCtorEq,yaw]|apply yab<;>(intro h_;(try simp only [h_]);revert h_)|apply And.intro|with_reducible intro h_|trivial|simp only [go_sem,la2];omega))
    all_goals refine ⟨yad.fn rfl hN ?_⟩
    all_goals (repeat' (first|omega|(first|apply yaa|(refine yac.intro (id:=11) [[46],[46],[44,45],[],[]] [[],[],[0,1],[],[]] (by decide+kernel) mixed ?_)|(refine yac.introT (id:=11) (yaw) (by decide+kernel) mixed ?_)|skip);simp only [go_sem,sevalprocAttr,↓reduceIte,reduceCtorEq,yaw]|apply yab<;>(intro h_;(try simp only [h_]);revert h_)|apply And.intro|with_reducible intro h_|trivial|simp only [go_sem,la2];omega))
    all_goals refine ⟨yag.fn rfl f2 ?_⟩
    all_goals (repeat' (first|omega|(first|apply yaa|(refine yac.intro (id:=11) [[46],[46],[44,45],[],[]] [[],[],[0,1],[],[]] (by decide+kernel) mixed ?_)|(refine yac.introT (id:=11) (yaw) (by decide+kernel) mixed ?_)|skip);simp only [go_sem,sevalprocAttr,↓reduceIte,reduceCtorEq,yaw]|apply yab<;>(intro h_;(try simp only [h_]);revert h_)|apply And.intro|with_reducible intro h_|trivial|simp only [go_sem,la2];omega))
    all_goals refine ⟨yag.fn rfl hA ?_⟩
    all_goals (repeat' (first|omega|(first|apply yaa|(refine yac.intro (id:=11) [[46],[46],[44,45],[],[]] [[],[],[0,1],[],[]] (by decide+kernel) mixed ?_)|(refine yac.introT (id:=11) (yaw) (by decide+kernel) mixed ?_)|skip);simp only [go_sem,sevalprocAttr,↓reduceIte,reduceCtorEq,yaw]|apply yab<;>(intro h_;(try simp only [h_]);revert h_)|apply And.intro|with_reducible intro h_|trivial|simp only [go_sem,la2];omega))
    all_goals exact LeA.refl _
   ·have bs:decide (s.getD c 0<0)=false:=by simpa using hsg
    rw [bs] at hA⊢
    have e:yff false (shP 1 p1)=shP 1 p1:=rfl
    rw [e] at hA⊢
    refine Fn.introL [.cell 2 47] Tryz.func64 rfl rfl (by decide) (by simp [Tryz.ntmps64]) ?_;rw [Tryz.ntmps64]
    repeat' (first|omega|(try apply yaa);simp only [go_sem,sevalprocAttr]|apply yab<;>(intro h_;(try simp only [h_]);revert h_)|apply And.intro|with_reducible intro h_|trivial|simp only [go_sem,la2];omega)
    all_goals refine ⟨yad.fn rfl hR ?_⟩
    all_goals (repeat' (first|omega|(first|apply yaa|(refine yac.intro (id:=11) [[46],[46],[44,45],[],[]] [[],[],[0,1],[],[]] (by decide+kernel) mixed ?_)|(refine yac.introT (id:=11) (yaw) (by decide+kernel) mixed ?_)|skip);simp only [go_sem,sevalprocAttr,↓reduceIte,reduceCtorEq,yaw]|apply yab<;>(intro h_;(try simp only [h_]);revert h_)|apply And.intro|with_reducible intro h_|trivial|simp only [go_sem,la2];omega))
    all_goals refine ⟨yad.fn rfl f1 ?_⟩
    all_goals (repeat' (first|omega|(first|apply yaa|(refine yac.intro (id:=11) [[46],[46],[44,45],[],[]] [[],[],[0,1],[],[]] (by decide+kernel) mixed ?_)|(refine yac.introT (id:=11) (yaw) (by decide+kernel) mixed ?_)|skip);simp only [go_sem,sevalprocAttr,↓reduceIte,reduceCtorEq,yaw]|apply yab<;>(intro h_;(try simp only [h_]);revert h_)|apply And.intro|with_reducible intro h_|trivial|simp only [go_sem,la2];omega))
    all_goals refine ⟨yad.fn rfl hsh ?_⟩
    all_goals (repeat' (first|omega|(first|apply yaa|(refine yac.intro (id:=11) [[46],[46],[44,45],[],[]] [[],[],[0,1],[],[]] (by decide+kernel) mixed ?_)|(refine yac.introT (id:=11) (yaw) (by decide+kernel) mixed ?_)|skip);simp only [go_sem,sevalprocAttr,bs,↓reduceIte,reduceCtorEq,yaw]|apply yab<;>(intro h_;(try simp only [h_]);revert h_)|apply And.intro|with_reducible intro h_|trivial|simp only [go_sem,la2];omega))
    all_goals refine ⟨yag.fn rfl f2 ?_⟩
    all_goals (repeat' (first|omega|(first|apply yaa|(refine yac.intro (id:=11) [[46],[46],[44,45],[],[]] [[],[],[0,1],[],[]] (by decide+kernel) mixed ?_)|(refine yac.introT (id:=11) (yaw) (by decide+kernel) mixed ?_)|skip);simp only [go_sem,sevalprocAttr,↓reduceIte,reduceCtorEq,yaw]|apply yab<;>(intro h_;(try simp only [h_]);revert h_)|apply And.intro|with_reducible intro h_|trivial|simp only [go_sem,la2];omega))
    all_goals refine ⟨yag.fn rfl hA ?_⟩
    all_goals (repeat' (first|omega|(first|apply yaa|(refine yac.intro (id:=11) [[46],[46],[44,45],[],[]] [[],[],[0,1],[],[]] (by decide+kernel) mixed ?_)|(refine yac.introT (id:=11) (yaw) (by decide+kernel) mixed ?_)|skip);simp only [go_sem,sevalprocAttr,↓reduceIte,reduceCtorEq,yaw]|apply yab<;>(intro h_;(try simp only [h_]);revert h_)|apply And.intro|with_reducible intro h_|trivial|simp only [go_sem,la2];omega))
    all_goals exact LeA.refl _
end Go.Proofs.YtbblgobamoabkaaGreatDoor
set_option linter.unusedSimpArgs false
set_option linter.unusedVariables false
namespace Go.Proofs.YtbblgobamoabkaaGreatDoor
open Go Go.RowKit
set_option maxRecDepth 100000
set_option maxHeartbeats 8000000
theorem y2j (s m:List Int) (L:Int) (p:List (Int×Int)) (n:Nat) (hv:yap s m L=true) (h0:0<s.length) (h1:s.length<=14) (hr:rsM n s m L=some p):Fn Tryz.prog 25 [dgA s m L] (.tup [plA false p,I 0]):=by
 have hV:=ydq s m L
 rw [hv] at hV
 have hR:=ykk n s m L p hr
 have b0:((s.length:Int)==0)=false:=by simp;intro e;subst e;simp at h0
 have b1:decide ((14:Int)<s.length)=false:=by simp;omega
 refine Fn.introL [.cell 2 47, .tmp 3] Tryz.func25 rfl rfl (by decide) (by simp [Tryz.ntmps25]) ?_;rw [Tryz.ntmps25]
 repeat' (first|omega|(try apply yaa);simp only [go_sem,sevalprocAttr,b0,b1]|apply yab<;>(intro h_;(try simp only [h_]);revert h_)|apply And.intro|with_reducible intro h_|trivial|simp only [go_sem,la2];omega)
 all_goals refine ⟨yad.fn rfl hV ?_⟩
 all_goals (repeat' (first|omega|(try apply yaa);simp only [go_sem,sevalprocAttr,b0,b1]|apply yab<;>(intro h_;(try simp only [h_]);revert h_)|apply And.intro|with_reducible intro h_|trivial|simp only [go_sem,la2];omega))
 all_goals refine ⟨yad.fn rfl hR ?_⟩
 all_goals (repeat' (first|omega|(try apply yaa);simp only [go_sem,sevalprocAttr,b0,b1]|apply yab<;>(intro h_;(try simp only [h_]);revert h_)|apply And.intro|with_reducible intro h_|trivial|simp only [go_sem,la2];omega))
 all_goals exact LeA.refl _
end Go.Proofs.YtbblgobamoabkaaGreatDoor
set_option linter.unusedSimpArgs false
set_option linter.unusedVariables false
namespace Go.Proofs.YtbblgobamoabkaaGreatDoor
open Go Go.RowKit
set_option maxRecDepth 100000
set_option maxHeartbeats 8000000
theorem y2k (m:List Int) (L:Int) (p:List (Int×Int)) (n:Nat) (hv:yap [] m L=true) (h0:0<L) (hr:rsM n [] m L=some p):Fn Tryz.prog 25 [dgA [] m L] (.tup [plA false p,I 0]):=by
 have hV:=ydq [] m L
 rw [hv] at hV
 have hR:=ykk n [] m L p hr
 have b0:(L==0)=false:=by rw [beq_eq_false_iff_ne];omega
 refine Fn.introL [.cell 2 47, .tmp 3] Tryz.func25 rfl rfl (by decide) (by simp [Tryz.ntmps25]) ?_;rw [Tryz.ntmps25]
 repeat' (first|omega|(try apply yaa);simp only [go_sem,sevalprocAttr,b0]|apply yab<;>(intro h_;(try simp only [h_]);revert h_)|apply And.intro|with_reducible intro h_|trivial|simp only [go_sem,la2];omega)
 all_goals refine ⟨yad.fn rfl hV ?_⟩
 all_goals (repeat' (first|omega|(try apply yaa);simp only [go_sem,sevalprocAttr,b0]|apply yab<;>(intro h_;(try simp only [h_]);revert h_)|apply And.intro|with_reducible intro h_|trivial|simp only [go_sem,la2];omega))
 all_goals refine ⟨yad.fn rfl hR ?_⟩
 all_goals (repeat' (first|omega|(try apply yaa);simp only [go_sem,sevalprocAttr,b0]|apply yab<;>(intro h_;(try simp only [h_]);revert h_)|apply And.intro|with_reducible intro h_|trivial|simp only [go_sem,la2];omega))
 all_goals exact LeA.refl _
end Go.Proofs.YtbblgobamoabkaaGreatDoor
namespace Go.Proofs.YtbblgobamoabkaaGreatDoor
set_option linter.unusedVariables false
set_option linter.unusedSimpArgs false
theorem yt1: ∀(q:List Int) (i:Int),AscN (Sp.tmsF i q)
 |[],i=>⟨.nil,fun t ht=>by cases ht⟩
 |a::q,i=>by
  have ih:=yt1 q (i+1)
  unfold Sp.tmsF
  split
  ·exact ih
  ·rename_i ha
   refine ⟨List.pairwise_cons.2 ⟨fun t ht=>?_,ih.asc⟩,fun t ht=>?_⟩
   ·have:=Sp.tmsF_mem q (i+1) t ht
    show i<t.1;omega
   ·rcases List.mem_cons.1 ht with rfl|h
    ·exact ha
    ·exact ih.nz t h
theorem yq7: ∀(q:List Int) (i e:Int),cfL (Sp.tmsF i q) e=if i<=e then q.getD (e-i).toNat 0 else 0
 |[],i,e=>by simp [Sp.tmsF,cfL]
 |a::q,i,e=>by
  have ih:=yq7 q (i+1) e
  have hs:i+1<=e->(a::q).getD (e-i).toNat 0=q.getD (e-(i+1)).toNat 0:=fun h=>by
   rw [show (e-i).toNat=(e-(i+1)).toNat+1 by omega];simp
  unfold Sp.tmsF
  split
  ·rename_i ha
   rw [ih]
   by_cases h:i+1<=e
   ·rw [if_pos h,if_pos (by omega),hs h]
   ·rw [if_neg h]
    by_cases h2:i<=e
    ·rw [if_pos h2,show (e-i).toNat=0 by omega];simp [ha]
    ·rw [if_neg h2]
  ·simp only [cfL]
   rw [ih]
   by_cases h:i=e
   ·rw [if_pos h,if_neg (by omega),if_pos (by omega),show (e-i).toNat=0 by omega];simp
   ·rw [if_neg h]
    by_cases h2:i+1<=e
    ·rw [if_pos h2,if_pos (by omega),hs h2];omega
    ·rw [if_neg h2,if_neg (by omega)];rfl
end Go.Proofs.YtbblgobamoabkaaGreatDoor
set_option linter.unusedSimpArgs false
set_option linter.unusedVariables false
namespace Go.Proofs.YtbblgobamoabkaaGreatDoor
open Go Go.RowKit
set_option maxRecDepth 100000
set_option maxHeartbeats 4000000
def yzj:List (List Nat):=[[17,20,21,22,23],[16,20,21,22,23],[20,21,22,23],[20,21,22,23],[16,17,18,19,21],[16,17,18,19,20],[16,17,18,19],[16,17,18,19],[]]
theorem yq8:eq2 Tryz.prog 97=true:=by decide+kernel
theorem y7k (p:List (Int×Int)) (hl:p.length<=1000000):Fn Tryz.prog 62 [.ro 2 p.length (.lst (tmC p)), .ro 2 p.length (.lst (tmC p))] (.bool true):=by
 have hlen:=ybm p
 have b0:((p.length:Int)!=p.length)=false:=by simp
 refine Fn.intro [.tmp 4] Tryz.func62 rfl rfl (by decide) (by simp [Tryz.ntmps62]) ?_;rw [Tryz.ntmps62]
 repeat' (first|omega|(try apply yaa);simp only [go_sem,sevalprocAttr,b0]|apply yab<;>(intro h_;(try simp only [h_]);revert h_)|apply And.intro|with_reducible intro h_|trivial|simp only [go_sem,la2];omega)
 refine yal.intro (fun n fr H=> ∃k:Nat,k<=p.length/\n=p.length-k/\fr=[(13,I k),(12,I p.length),(1, .ro 2 p.length (.lst (tmC p))),(0, .ro 2 p.length (.lst (tmC p)))]/\H=[]) ?_ ?_
 ·refine ⟨_,_,_,?_,0,by omega,rfl,rfl,rfl⟩
  refine Wk.sub ?_ ?_<;>(simp only [go_sem,sevalprocAttr,yam])
 rintro n fr H ⟨k,hk,rfl,rfl,rfl⟩
 by_cases hkl:k<p.length
 ·have g0:=ybk p k hkl
  have g1:=ycw p k hkl
  have b1:((p.getD k (0,0)).1==(p.getD k (0,0)).1)=true:=by simp
  have b2:((p.getD k (0,0)).2==(p.getD k (0,0)).2)=true:=by simp
  repeat' (first|omega|(first|apply yaa|(refine yac.intro (id:=6) yzj [[],[0],[],[],[0,1,2,3],[0,1,2,3,4],[0,1,2,3],[0,1,2,3],[]] (by decide+kernel) mixed ?_)|skip);simp only [go_sem,sevalprocAttr,g0,g1,hlen,b1,b2,yq8,↓reduceIte,reduceCtorEq,yzj]|apply yab<;>(intro h_;(try simp only [h_]);revert h_)|apply And.intro|with_reducible intro h_|trivial|simp only [go_sem,la2];omega)
  all_goals (first|exact yq8|skip)
  refine ⟨_,_,_,?_,?_,⟨k+1,by omega,rfl,rfl,rfl⟩⟩
  ·omega
  ·refine Wk.sub ?_ ?_<;>(simp only [go_sem,sevalprocAttr,yam])
 ·obtain rfl:k=p.length:=by omega
  repeat' (first|omega|(try apply yaa);simp only [go_sem,sevalprocAttr]|apply yab<;>(intro h_;(try simp only [h_]);revert h_)|apply And.intro|with_reducible intro h_|trivial|simp only [go_sem,la2];omega)
theorem y2l (p:List (Int×Int)) (hl:p.length<=1000000):Fn Tryz.prog 22 [plA false p,plA false p] (.bool true):=by
 have hS:=y7k p hl
 refine Fn.intro [.tmp 4] Tryz.func22 rfl rfl (by decide) (by simp [Tryz.ntmps22]) ?_;rw [Tryz.ntmps22]
 repeat' (first|omega|(try apply yaa);simp only [go_sem,sevalprocAttr,yam]|apply yab<;>(intro h_;(try simp only [h_]);revert h_)|apply And.intro|with_reducible intro h_|trivial|simp only [go_sem,la2];omega)
 refine ⟨yad.fn rfl hS ?_⟩
 repeat' (first|omega|(try apply yaa);simp only [go_sem,sevalprocAttr]|apply yab<;>(intro h_;(try simp only [h_]);revert h_)|apply And.intro|with_reducible intro h_|trivial|simp only [go_sem,la2];omega)
end Go.Proofs.YtbblgobamoabkaaGreatDoor
