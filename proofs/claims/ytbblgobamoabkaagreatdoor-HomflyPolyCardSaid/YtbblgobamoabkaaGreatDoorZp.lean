/- Layer 20: the HOMFLY polynomial of a diagram. -/
import Derived.Test.YtbblgobamoabkaaGreatDoorHp2
import Derived.Test.YtbblgobamoabkaaGreatDoorZb
import Derived.Test.YtbblgobamoabkaaGreatDoorZc
import Derived.Test.YtbblgobamoabkaaGreatDoorZj
namespace Go.Proofs.YtbblgobamoabkaaGreatDoor
open Go Go.RowKit
set_option maxRecDepth 100000
set_option maxHeartbeats 8000000
set_option linter.unusedVariables false
set_option linter.unusedSimpArgs false
theorem ylm {WB MB:Nat} {F:List Int->List Int->Nat->Int->Int} (hF:HomV WB MB F) {s m:List Int} {L:Nat} (h:ybg s m L) (hMB:s.length<=WB/\3*s.length+L<=MB) {p:List (Int×Int)} (hp:yak p (F s m L)):Fn Tryz.prog 8 [dgA s m L] (.tup [bvP false p,I 0]):=by
 have hV:=yc5 s m L
 rw [h.val] at hV
 have hn:=h.n14
 have bn:decide ((14:Int)<s.length)=false:=by rw [decide_eq_false_iff_not];omega
 have hr:=yqp hF s m L h hMB p hp [] PwOk.nil
 by_cases h0:s.length=0
 ·have hb0:((s.length:Int)==0)=true:=by rw [h0];rfl
  have bL:((L:Int)==0)=false:=by
   rw [beq_eq_false_iff_ne]
   rcases h.pos with h2|h2<;>omega
  refine Fn.introL [.cell 2 29, .tmp 3] Tryz.func8 rfl rfl (by decide) (by simp [Tryz.ntmps8]) ?_;rw [Tryz.ntmps8]
  repeat' (first|omega|(try apply yaa);simp only [go_sem,sevalprocAttr,hb0,bL,bn]|(refine ⟨yae.fn (r:=?_) rfl ?_ ?_⟩;rotate_left;assumption)|(refine ⟨yai.fn (r:=?_) rfl ?_ ?_⟩;rotate_left;assumption)|apply yab<;>(intro h_;(try simp only [h_]);revert h_)|apply And.intro|with_reducible intro h_|trivial|simp only [go_sem,la2];omega)
  refine ⟨yae.inline (hr _ ?_ _ _ fun H' l' w1 w2 w3 w5=>?_)⟩
  ·constructor<;>(simp only [go_sem,sevalprocAttr])
  obtain ⟨i5,i4,i3,i2,iN⟩:=w2
  simp only [go_sem,sevalprocAttr] at w3 w5
  have u1:=w5 1 (by omega) (by omega)
  simp only [go_sem,sevalprocAttr] at u1
  have y1: ∀o,hget (hset H' 1 o) 1=some o:=fun o=>ya2 u1
  generalize hM:hnew H'=M at*
  obtain ⟨M1,EM1⟩: ∃x,M+1=x:=⟨_,rfl⟩
  have FqM2:(M=2)=False:=eq_false (by omega)
  have Fq2M:(2=M)=False:=eq_false (by omega)
  have FqM3:(M=3)=False:=eq_false (by omega)
  have Fq3M:(3=M)=False:=eq_false (by omega)
  have FqM4:(M=4)=False:=eq_false (by omega)
  have Fq4M:(4=M)=False:=eq_false (by omega)
  have FqM5:(M=5)=False:=eq_false (by omega)
  have Fq5M:(5=M)=False:=eq_false (by omega)
  have FqM12:(M1=2)=False:=eq_false (by omega)
  have Fq2M1:(2=M1)=False:=eq_false (by omega)
  have FqM13:(M1=3)=False:=eq_false (by omega)
  have Fq3M1:(3=M1)=False:=eq_false (by omega)
  have FqM14:(M1=4)=False:=eq_false (by omega)
  have Fq4M1:(4=M1)=False:=eq_false (by omega)
  have FqM15:(M1=5)=False:=eq_false (by omega)
  have Fq5M1:(5=M1)=False:=eq_false (by omega)
  have FqM1M:(M1=M)=False:=eq_false (by omega)
  have FqMM1:(M=M1)=False:=eq_false (by omega)
  have FlM1M:(M1<=M)=False:=eq_false (by omega)
  have FqM0:(M=0)=False:=eq_false (by omega)
  have Fq0M:(0=M)=False:=eq_false (by omega)
  have FqM1:(M=1)=False:=eq_false (by omega)
  have Fq1M:(1=M)=False:=eq_false (by omega)
  have FqM10:(M1=0)=False:=eq_false (by omega)
  have Fq0M1:(0=M1)=False:=eq_false (by omega)
  have FqM11:(M1=1)=False:=eq_false (by omega)
  have Fq1M1:(1=M1)=False:=eq_false (by omega)
  repeat' (first|omega|(try apply yaa);simp only [go_sem,sevalprocAttr,hM,i2,i3,i4,i5,u1,y1,EM1,FqM2,Fq2M,FqM3,Fq3M,FqM4,Fq4M,FqM5,Fq5M,FqM12,Fq2M1,FqM13,Fq3M1,FqM14,Fq4M1,FqM15,Fq5M1,FqM1M,FqMM1,FlM1M,FqM0,Fq0M,FqM1,Fq1M,FqM10,Fq0M1,FqM11,Fq1M1]|(refine ⟨yae.fn (r:=?_) rfl ?_ ?_⟩;rotate_left;assumption)|(refine ⟨yai.fn (r:=?_) rfl ?_ ?_⟩;rotate_left;assumption)|apply yab<;>(intro h_;(try simp only [h_]);revert h_)|apply And.intro|with_reducible intro h_|trivial|simp only [go_sem,la2];omega)
  all_goals exact LeA.refl _
 ·have hb0:((s.length:Int)==0)=false:=by rw [beq_eq_false_iff_ne];omega
  refine Fn.introL [.cell 2 29, .tmp 3] Tryz.func8 rfl rfl (by decide) (by simp [Tryz.ntmps8]) ?_;rw [Tryz.ntmps8]
  repeat' (first|omega|(try apply yaa);simp only [go_sem,sevalprocAttr,hb0,bn]|(refine ⟨yae.fn (r:=?_) rfl ?_ ?_⟩;rotate_left;assumption)|(refine ⟨yai.fn (r:=?_) rfl ?_ ?_⟩;rotate_left;assumption)|apply yab<;>(intro h_;(try simp only [h_]);revert h_)|apply And.intro|with_reducible intro h_|trivial|simp only [go_sem,la2];omega)
  refine ⟨yae.inline (hr _ ?_ _ _ fun H' l' w1 w2 w3 w5=>?_)⟩
  ·constructor<;>(simp only [go_sem,sevalprocAttr])
  obtain ⟨i5,i4,i3,i2,iN⟩:=w2
  simp only [go_sem,sevalprocAttr] at w3 w5
  have u1:=w5 1 (by omega) (by omega)
  simp only [go_sem,sevalprocAttr] at u1
  have y1: ∀o,hget (hset H' 1 o) 1=some o:=fun o=>ya2 u1
  generalize hM:hnew H'=M at*
  obtain ⟨M1,EM1⟩: ∃x,M+1=x:=⟨_,rfl⟩
  have FqM2:(M=2)=False:=eq_false (by omega)
  have Fq2M:(2=M)=False:=eq_false (by omega)
  have FqM3:(M=3)=False:=eq_false (by omega)
  have Fq3M:(3=M)=False:=eq_false (by omega)
  have FqM4:(M=4)=False:=eq_false (by omega)
  have Fq4M:(4=M)=False:=eq_false (by omega)
  have FqM5:(M=5)=False:=eq_false (by omega)
  have Fq5M:(5=M)=False:=eq_false (by omega)
  have FqM12:(M1=2)=False:=eq_false (by omega)
  have Fq2M1:(2=M1)=False:=eq_false (by omega)
  have FqM13:(M1=3)=False:=eq_false (by omega)
  have Fq3M1:(3=M1)=False:=eq_false (by omega)
  have FqM14:(M1=4)=False:=eq_false (by omega)
  have Fq4M1:(4=M1)=False:=eq_false (by omega)
  have FqM15:(M1=5)=False:=eq_false (by omega)
  have Fq5M1:(5=M1)=False:=eq_false (by omega)
  have FqM1M:(M1=M)=False:=eq_false (by omega)
  have FqMM1:(M=M1)=False:=eq_false (by omega)
  have FlM1M:(M1<=M)=False:=eq_false (by omega)
  have FqM0:(M=0)=False:=eq_false (by omega)
  have Fq0M:(0=M)=False:=eq_false (by omega)
  have FqM1:(M=1)=False:=eq_false (by omega)
  have Fq1M:(1=M)=False:=eq_false (by omega)
  have FqM10:(M1=0)=False:=eq_false (by omega)
  have Fq0M1:(0=M1)=False:=eq_false (by omega)
  have FqM11:(M1=1)=False:=eq_false (by omega)
  have Fq1M1:(1=M1)=False:=eq_false (by omega)
  repeat' (first|omega|(try apply yaa);simp only [go_sem,sevalprocAttr,hM,i2,i3,i4,i5,u1,y1,EM1,FqM2,Fq2M,FqM3,Fq3M,FqM4,Fq4M,FqM5,Fq5M,FqM12,Fq2M1,FqM13,Fq3M1,FqM14,Fq4M1,FqM15,Fq5M1,FqM1M,FqMM1,FlM1M,FqM0,Fq0M,FqM1,Fq1M,FqM10,Fq0M1,FqM11,Fq1M1]|(refine ⟨yae.fn (r:=?_) rfl ?_ ?_⟩;rotate_left;assumption)|(refine ⟨yai.fn (r:=?_) rfl ?_ ?_⟩;rotate_left;assumption)|apply yab<;>(intro h_;(try simp only [h_]);revert h_)|apply And.intro|with_reducible intro h_|trivial|simp only [go_sem,la2];omega)
  all_goals exact LeA.refl _
end Go.Proofs.YtbblgobamoabkaaGreatDoor
set_option linter.unusedSimpArgs false
set_option linter.unusedVariables false
namespace Go.Proofs.YtbblgobamoabkaaGreatDoor
open Go Go.RowKit
theorem Fn.args {P:Program} {f:Nat} {xs ys:List AV} {r:AV} (h:Fn P f ys r) (hl:LeL xs ys):Fn P f xs r:=
 ⟨h.1,fun w Mx vs hm hlen hv=>h.2 w Mx vs hm (hlen.trans hl.len) fun i v y hi hy=>by
  obtain ⟨x,hx⟩: ∃x,xs[i]?=some x:=by
   have:i<ys.length:=(List.getElem?_eq_some_iff.1 hy).1
   exact ⟨_,List.getElem?_eq_getElem (by rw [hl.len];exact this)⟩
  exact (hl.get i x y hx hy).out _ _ _ _ v (hv i v x hi hx)⟩
end Go.Proofs.YtbblgobamoabkaaGreatDoor
namespace Go.Proofs.YtbblgobamoabkaaGreatDoor
open Go Go.RowKit
set_option maxRecDepth 100000
set_option maxHeartbeats 8000000
set_option linter.unusedVariables false
set_option linter.unusedSimpArgs false
theorem yu5 (k:Int):LeA (.tup [.agg [.bool false, .nils],I k]) (.tup [bvP false [],I k]):=LeA.tupL (.cons (LeA.aggL (.cons (LeA.refl _) (.cons (LeA.nils (by decide) rfl) .nil))) (.cons (LeA.refl _) .nil))
theorem yyf (s m:List Int) (L:Int) (hv:yap s m L=false):Fn Tryz.prog 8 [dgA s m L] (.tup [bvP false [],I 1]):=by
 have hV:=yc5 s m L
 rw [hv] at hV
 refine Fn.introL [.cell 2 29, .tmp 3] Tryz.func8 rfl rfl (by decide) (by simp [Tryz.ntmps8]) ?_;rw [Tryz.ntmps8]
 repeat' (first|omega|(try apply yaa);simp only [go_sem,sevalprocAttr,yad]|(refine ⟨yae.fn (r:=?_) rfl ?_ ?_⟩;rotate_left;assumption)|(refine ⟨yai.fn (r:=?_) rfl ?_ ?_⟩;rotate_left;assumption)|apply yab<;>(intro h_;(try simp only [h_]);revert h_)|apply And.intro|with_reducible intro h_|trivial|simp only [go_sem,la2];omega)
 all_goals exact yu5 1
theorem yyg (m:List Int) (hv:yap [] m 0=true):Fn Tryz.prog 8 [dgA [] m 0] (.tup [bvP false [],I 8]):=by
 have hV:=yc5 [] m 0
 rw [hv] at hV
 refine Fn.introL [.cell 2 29, .tmp 3] Tryz.func8 rfl rfl (by decide) (by simp [Tryz.ntmps8]) ?_;rw [Tryz.ntmps8]
 repeat' (first|omega|(try apply yaa);simp only [go_sem,sevalprocAttr,yad]|(refine ⟨yae.fn (r:=?_) rfl ?_ ?_⟩;rotate_left;assumption)|(refine ⟨yai.fn (r:=?_) rfl ?_ ?_⟩;rotate_left;assumption)|apply yab<;>(intro h_;(try simp only [h_]);revert h_)|apply And.intro|with_reducible intro h_|trivial|simp only [go_sem,la2];omega)
 all_goals exact yu5 8
theorem yyh (s m:List Int) (L:Int) (hv:yap s m L=true) (h:14<s.length):Fn Tryz.prog 8 [dgA s m L] (.tup [bvP false [],I 5]):=by
 have hV:=yc5 s m L
 rw [hv] at hV
 have b0:((s.length:Int)==0)=false:=by rw [beq_eq_false_iff_ne];omega
 have b1:decide ((14:Int)<s.length)=true:=by rw [decide_eq_true_iff];omega
 refine Fn.introL [.cell 2 29, .tmp 3] Tryz.func8 rfl rfl (by decide) (by simp [Tryz.ntmps8]) ?_;rw [Tryz.ntmps8]
 repeat' (first|omega|(try apply yaa);simp only [go_sem,sevalprocAttr,b0,b1,yad]|(refine ⟨yae.fn (r:=?_) rfl ?_ ?_⟩;rotate_left;assumption)|(refine ⟨yai.fn (r:=?_) rfl ?_ ?_⟩;rotate_left;assumption)|apply yab<;>(intro h_;(try simp only [h_]);revert h_)|apply And.intro|with_reducible intro h_|trivial|simp only [go_sem,la2];omega)
 all_goals exact yu5 5
end Go.Proofs.YtbblgobamoabkaaGreatDoor
namespace Go.Proofs.YtbblgobamoabkaaGreatDoor
open Go Go.RowKit
set_option maxRecDepth 100000
set_option maxHeartbeats 8000000
set_option linter.unusedVariables false
set_option linter.unusedSimpArgs false
theorem ykf (v l:Int) (h0:0<=l) (h1:l<=4611686018427387904):Fn Tryz.prog 120 [I v,I l] (.bool (decide (l<v)||decide (v< -l))):=by
 obtain ⟨b1,e1⟩: ∃b,decide (l<v)=b:=⟨_,rfl⟩
 obtain ⟨b2,e2⟩: ∃b,decide (v< -l)=b:=⟨_,rfl⟩
 rw [e1,e2]
 have e3:decide (v<0-l)=b2:=by rw [←e2];exact decide_eq_decide.2 (by omega)
 refine Fn.intro [.tmp 4] Tryz.func120 rfl rfl (by decide) (by simp [Tryz.ntmps120]) ?_;rw [Tryz.ntmps120]
 cases b1<;>cases b2
 all_goals (repeat' (first|omega|(try apply yaa);simp only [go_sem,sevalprocAttr,e1,e3]|apply yab<;>(intro h_;(try simp only [h_]);revert h_)|apply And.intro|with_reducible intro h_|trivial|simp only [go_sem,la2];omega))
theorem yu6 (a z c a' z' c':Int):Fn Tryz.prog 149 [.agg [I a,I z,I c], .agg [I a',I z',I c']] (.bool (decide (a<a')||(decide (a=a')&&decide (z<z')))):=by
 obtain ⟨b1,e1⟩: ∃b,decide (a<a')=b:=⟨_,rfl⟩
 obtain ⟨b2,e2⟩: ∃b,decide (a=a')=b:=⟨_,rfl⟩
 obtain ⟨b3,e3⟩: ∃b,decide (z<z')=b:=⟨_,rfl⟩
 rw [e1,e2,e3]
 have e4:(a==a')=b2:=by rw [←e2];rfl
 refine Fn.intro [.tmp 4] Tryz.func149 rfl rfl (by decide) (by simp [Tryz.ntmps149]) ?_;rw [Tryz.ntmps149]
 cases b1<;>cases b2<;>cases b3
 all_goals (repeat' (first|omega|(try apply yaa);simp only [go_sem,sevalprocAttr,e1,e4,e3]|apply yab<;>(intro h_;(try simp only [h_]);revert h_)|apply And.intro|with_reducible intro h_|trivial|simp only [go_sem,la2];omega))
end Go.Proofs.YtbblgobamoabkaaGreatDoor
namespace Go.Proofs.YtbblgobamoabkaaGreatDoor
set_option linter.unusedSimpArgs false
set_option linter.unusedVariables false
def insR:List (Int×Int)->Int×Int->List (Int×Int)
 |[],t=>[t]
 |u::l,t=>if u.1<t.1 then u::insR l t else if u.1=t.1 then (u.1,u.2+t.2)::l else t::u::l
def insK:List (Int×Int)->Int->Nat
 |[],_=>0
 |u::l,e=>if u.1<e then insK l e+1 else 0
theorem ys8 {u:Int×Int} {l:List (Int×Int)} {e:Int} (h:u.1<e):insK (u::l) e=insK l e+1:=by simp only [insK];rw [if_pos h]
theorem ys9 {u:Int×Int} {l:List (Int×Int)} {e:Int} (h: ¬u.1<e):insK (u::l) e=0:=by simp only [insK];rw [if_neg h]
theorem yta: ∀(l:List (Int×Int)) (e:Int),insK l e<=l.length
 |[],_=>Nat.le_refl _
 |u::l,e=>by
  have:=yta l e
  simp only [insK,List.length_cons]
  split<;>omega
theorem ytb: ∀(l:List (Int×Int)) (e:Int) (j:Nat),j<insK l e->(l.getD j (0,0)).1<e
 |[],_,_,h=>by simp [insK] at h
 |u::l,e,j,h=>by
  simp only [insK] at h
  split at h
  ·cases j with
   |zero=>simpa
   |succ j=>simpa using ytb l e j (by omega)
  ·omega
theorem ytc: ∀(l:List (Int×Int)) (e:Int),insK l e<l.length-> ¬(l.getD (insK l e) (0,0)).1<e
 |[],_,h=>by simp [insK] at h
 |u::l,e,h=>by
  by_cases hu:u.1<e
  ·rw [ys8 hu] at h⊢
   rw [List.getD_cons_succ]
   exact ytc l e (by simpa using h)
  ·rw [ys9 hu];exact hu
theorem ymq: ∀(l:List (Int×Int)) (t:Int×Int),(insK l t.1<l.length/\(l.getD (insK l t.1) (0,0)).1=t.1->insR l t=l.set (insK l t.1) (t.1,(l.getD (insK l t.1) (0,0)).2+t.2))/\(¬(insK l t.1<l.length/\(l.getD (insK l t.1) (0,0)).1=t.1)->insR l t=l.take (insK l t.1)++t::l.drop (insK l t.1))
 |[],t=>⟨fun h=>by simp at h,fun _=>rfl⟩
 |u::l,t=>by
  obtain ⟨h1,h2⟩:=ymq l t
  by_cases hu:u.1<t.1
  ·rw [ys8 hu]
   simp only [List.getD_cons_succ,List.length_cons,Nat.add_lt_add_iff_right,List.set_cons_succ,List.take_succ_cons,List.drop_succ_cons,List.cons_append]
   have e:insR (u::l) t=u::insR l t:=by simp only [insR];rw [if_pos hu]
   rw [e]
   exact ⟨fun h=>by rw [h1 h],fun h=>by rw [h2 h]⟩
  ·rw [ys9 hu]
   simp only [List.getD_cons_zero,List.length_cons,Nat.zero_lt_succ,true_and,List.set_cons_zero,List.take_zero,List.drop_zero,List.nil_append]
   refine ⟨fun h=>?_,fun h=>?_⟩
   ·simp only [insR];rw [if_neg hu,if_pos h,h]
   ·simp only [insR];rw [if_neg hu,if_neg h]
theorem ytd (e:Int): ∀(l:List (Int×Int)) (t:Int×Int),cfL (insR l t) e=cfL l e+if t.1=e then t.2 else 0
 |[],t=>by simp only [insR,cfL];omega
 |u::l,t=>by
  simp only [insR]
  split
  ·simp only [cfL];rw [ytd e l t];omega
  ·split
   ·rename_i he
    simp only [cfL]
    by_cases h:t.1=e
    ·rw [if_pos (by omega),if_pos (by omega),if_pos h];omega
    ·rw [if_neg (by omega),if_neg (by omega),if_neg h];omega
   ·simp only [cfL];omega
theorem yte {u:Int×Int}: ∀{l:List (Int×Int)} {t:Int×Int},u∈insR l t->u∈l\/u.1=t.1
 |[],t,h=>by simp only [insR,List.mem_singleton] at h;exact .inr (by rw [h])
 |v::l,t,h=>by
  simp only [insR] at h
  split at h
  ·rcases List.mem_cons.1 h with rfl|h
   ·exact .inl (List.mem_cons_self ..)
   ·exact (yte h).imp (List.mem_cons_of_mem _) id
  ·split at h
   ·rename_i he
    rcases List.mem_cons.1 h with rfl|h
    ·exact .inr he
    ·exact .inl (List.mem_cons_of_mem _ h)
   ·rcases List.mem_cons.1 h with rfl|h
    ·exact .inr rfl
    ·exact .inl h
theorem ytf: ∀{l:List (Int×Int)} (t:Int×Int),(l.Pairwise fun a b=>a.1<b.1)->(insR l t).Pairwise fun a b=>a.1<b.1
 |[],t,_=>by simp [insR]
 |u::l,t,h=>by
  have h':=List.pairwise_cons.1 h
  simp only [insR]
  split
  ·rename_i hu
   refine List.pairwise_cons.2 ⟨fun v hv=>?_,ytf t h'.2⟩
   rcases yte hv with hv|hv
   ·exact h'.1 v hv
   ·omega
  ·split
   ·exact List.pairwise_cons.2 ⟨h'.1,h'.2⟩
   ·refine List.pairwise_cons.2 ⟨fun v hv=>?_,h⟩
    rcases List.mem_cons.1 hv with rfl|hv
    ·omega
    ·have:=h'.1 v hv;omega
theorem ytg: ∀(l:List (Int×Int)) (t:Int×Int),(insR l t).length<=l.length+1
 |[],t=>by simp [insR]
 |u::l,t=>by
  have:=ytg l t
  simp only [insR]
  split
  ·simp only [List.length_cons];omega
  ·split<;>simp only [List.length_cons]<;>omega
def sumR:List (Int×Int)->List (Int×Int)
 |l=>l.foldl insR []
theorem yyi (l:List (Int×Int)) (t:Int×Int):sumR (l++[t])=insR (sumR l) t:=by simp [sumR]
theorem yln (Q:List (Int×Int)->List (Int×Int)->Prop) (h0:Q [] []) (hs: ∀l r t,Q l r->Q (l++[t]) (insR r t)) (l:List (Int×Int)):Q l (sumR l):=by
 have gen: ∀(l a r:List (Int×Int)),Q a r->Q (a++l) (l.foldl insR r):=by
  intro l
  induction l with
  |nil=>intro a r h;simpa using h
  |cons t l ih=>intro a r h;have:=ih (a++[t]) (insR r t) (hs a r t h);simpa using this
 exact gen l [] [] h0
theorem yqq (l:List (Int×Int)) (e:Int):cfL (sumR l) e=cfL l e:=by
 refine yln (fun l r=>cfL r e=cfL l e) rfl (fun l r t h=>?_) l
 rw [ytd,h,ye4]
 simp only [cfL];omega
theorem yqr (l:List (Int×Int)):(sumR l).Pairwise fun a b=>a.1<b.1:=yln (fun _ r=>r.Pairwise fun a b=>a.1<b.1) .nil (fun _ _ t h=>ytf t h) l
theorem y1d (l:List (Int×Int)):(sumR l).length<=l.length:=yln (fun l r=>r.length<=l.length) (Nat.le_refl _) (fun l r t h=>by have:=ytg r t;simp only [List.length_append,List.length_cons,List.length_nil];omega) l
theorem ygb {l:List (Int×Int)} {f:Int->Int} (h: ∀e,cfL l e=f e):yak (nz (sumR l)) f:=⟨y5e (yqr l),fun e=>by rw [y5d,yqq,h]⟩
end Go.Proofs.YtbblgobamoabkaaGreatDoor
