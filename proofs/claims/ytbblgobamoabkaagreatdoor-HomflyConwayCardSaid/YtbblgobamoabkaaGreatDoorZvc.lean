/- Plain: at a = 1 the tree's polynomial is Conway's. -/
import Derived.Test.YtbblgobamoabkaaGreatDoorZu
import Derived.Test.YtbblgobamoabkaaGreatDoorSe1
import Derived.Test.YtbblgobamoabkaaGreatDoorZm
import Derived.Test.YtbblgobamoabkaaGreatDoorZva
namespace Go.Proofs.YtbblgobamoabkaaGreatDoor
open Sp
set_option linter.unusedSimpArgs false
set_option linter.unusedVariables false
theorem ynk (b:Int): ∀P:List (Int×Int),Hs.cv2 (Hs.to2 P) Hs.one2 0 b=cfL (sZ 0 P) b
 |[]=>rfl
 |t::P=>by
  have ih:=ynk b P
  show t.2*Hs.one2 (0-bvA t.1) (b-bvZ t.1)+Hs.cv2 (Hs.to2 P) Hs.one2 0 b=(if bvZ t.1+0=b then t.2 else 0)+cfL (sZ 0 P) b
  rw [ih]
  unfold Hs.one2
  by_cases h:bvZ t.1+0=b
  ·rw [if_pos h,if_pos (by omega),Int.mul_one]
  ·rw [if_neg h,if_neg (by omega),Int.mul_zero]
theorem y7g {P Q:List (Int×Int)} (h: ∀e,cfL P e=cfL Q e) (b:Int):cfL (sZ 0 P) b=cfL (sZ 0 Q) b:=by
 rw [←ynk,←ynk]
 refine Hs.cv2_ext _ _ _ _ _ _ (Nat.le_refl _) fun x y=>?_
 by_cases hy: -8388608<=y/\y<8388608
 ·rw [Hs.to2_cf _ _ _ hy,Hs.to2_cf _ _ _ hy,h]
 ·rw [Hs.to2_off hy,Hs.to2_off hy]
theorem y7h (P Q:List (Int×Int)) (b:Int):cfL (sZ 0 (P++Q)) b=cfL (sZ 0 P) b+cfL (sZ 0 Q) b:=by
 rw [←ydu];simp [sZ]
theorem yvn (d k b:Int) (hd:(-2<=bvA d/\bvA d<=2)/\ -2<=bvZ d/\bvZ d<=2): ∀P:List (Int×Int),(∀t∈P,(-1000<=bvA t.1/\bvA t.1<=1000)/\ -1000<=bvZ t.1/\bvZ t.1<=1000)->cfL (sZ 0 (shL d k P)) b=k*cfL (sZ 0 P) (b-bvZ d)
 |[],_=>by simp [shL,sZ,cfL]
 |t::P,h=>by
  have ih:=yvn d k b hd P fun u hu=>h u (.tail _ hu)
  have ht:=h t (.head _)
  have ha:=yjt (e:=t.1) (e':=d) (by unfold bvOk;omega) (by unfold bvOk;omega)
  have ha2:=yjt (e:=d) (e':=t.1) (by unfold bvOk;omega) (by unfold bvOk;omega)
  simp only [shL,sZ,List.map_cons,cfL] at ih⊢
  rw [ih,Int.mul_add]
  congr 1
  first|rw [ha.2]|rw [ha2.2]
  by_cases hb:bvZ t.1+0=b-bvZ d
  ·rw [if_pos hb,if_pos (by omega)]
  ·rw [if_neg hb,if_neg (by omega),Int.mul_zero]
theorem yzg {P P1 P2:List (Int×Int)} {f f1 f2:Int->Int} {d1 d2 k N:Int} (hP:yai P f) (h1:yai P1 f1) (h2:yai P2 f2) (s1:SupB f1 N) (s2:SupB f2 N) (hN:N<=1000) (hd1:(-2<=bvA d1/\bvA d1<=2)/\ -2<=bvZ d1/\bvZ d1<=2) (hd2:(-2<=bvA d2/\bvA d2<=2)/\ -2<=bvZ d2/\bvZ d2<=2)
  (hf: ∀e,f e=f1 (e-d1)+k*f2 (e-d2)) (b:Int):cfL (sZ 0 P) b=cfL (sZ 0 P1) (b-bvZ d1)+k*cfL (sZ 0 P2) (b-bvZ d2):=by
 have e: ∀x,cfL P x=cfL (shL d1 1 P1++shL d2 k P2) x:=fun x=>by
  rw [ydu,ydz,ydz,hP.cf,h1.cf,h2.cf,hf,Int.one_mul]
 rw [y7g e,y7h,yvn d1 1 b hd1 P1 (fun t ht=>by have:=h1.memB s1 ht;omega),yvn d2 k b hd2 P2 (fun t ht=>by have:=h2.memB s2 ht;omega),Int.one_mul]
theorem y8q (k:Nat) (hk:1<=k/\k<=400) {P:List (Int×Int)} (hP:yai P (Hs.XE k)) (b:Int):cfL (sZ 0 P) b=if k=1/\b=0 then 1 else 0:=by
 by_cases h1:k=1
 ·subst h1
  obtain rfl:P=[(0,1)]:=hP.uniq Hs.XE_1
  have b0:bvZ 0=0:=by decide
  simp only [sZ,List.map_cons,List.map_nil,cfL,b0]
  by_cases hb:b=0
  ·rw [if_pos (by omega),if_pos ⟨trivial,hb⟩];rfl
  ·rw [if_neg (by omega),if_neg (by omega)];rfl
 ·obtain ⟨n,rfl⟩: ∃n,k=n+1+1:=⟨k-2,by omega⟩
  obtain ⟨Q,hQ⟩:=yby (Hs.XE_sup (n+1)) (by omega)
  have z1:bvZ (bvE (-1) (-1))= -1:=by decide
  have z2:bvZ (bvE 1 (-1))= -1:=by decide
  have:=yzg (d1:=bvE (-1) (-1)) (d2:=bvE 1 (-1)) (k:= -1) hP hQ hQ (Hs.XE_sup (n+1)) (Hs.XE_sup (n+1)) (by omega) (by decide) (by decide) (fun e=>by rw [Hs.XE_S n (by omega)];omega) b
  rw [this,z1,z2,if_neg (by omega)]
  omega
def coG (q:List Int) (b:Int):Int:=if 0<=b then q.getD b.toNat 0 else 0
theorem y7i (p:List Int) (k:Int) (r:List Int) (b:Int):coG (adR p k r) b=coG p b+k*coG r (b-1):=by
 unfold coG
 by_cases h:0<=b
 ·rw [if_pos h,if_pos h,adRG]
  by_cases h0:0<b.toNat
  ·rw [if_pos h0,if_pos (by omega),show (b-1).toNat=b.toNat-1 by omega]
  ·rw [if_neg h0,if_neg (by omega),Int.mul_zero]
 ·rw [if_neg h,if_neg h,if_neg (by omega),Int.mul_zero];rfl
theorem y2h: ∀s m l,ybd s m l-> ∀f q,rfM f s m l=some q-> ∀P,yai P (hTr s m l)-> ∀b,cfL (sZ 0 P) b=coG q b:=by
 refine ye7 (fun s m l h hb f q hq P hP b=>?_) fun s m l c l' h hb hc hsg hl' h1 e1 h2 e2 i1 i2 f q hq P hP b=>?_
 ·cases f with
  |zero=>cases hq
  |succ f=>
   unfold rfM at hq
   rw [hb] at hq
   cases hq
   have h3:=yb0 s m
   have h4:=(yas h.val).len
   have h5:=h.len
   have h6:1<=l+(yaj s m).length:=by
    rcases h.pos with h3|h3
    ·have:=strands_pos (yas h.val) h3;omega
    ·omega
   rw [y8q _ ⟨h6,by have:=h.n14;omega⟩ (hP.congr fun e=>ye8 hb e) b]
   unfold coG
   by_cases h7:((yaj s m).length:Int)+l=1
   ·rw [if_pos h7]
    by_cases h8:b=0
    ·subst h8;rw [if_pos ⟨by omega,rfl⟩];rfl
    ·rw [if_neg (by omega)]
     split
     ·obtain ⟨x,hx⟩: ∃x,b.toNat=x+1:=⟨b.toNat-1,by omega⟩
      rw [hx];rfl
     ·rfl
   ·rw [if_neg h7,if_neg (by omega)]
    split
    ·cases b.toNat<;>rfl
    ·rfl
 ·cases f with
  |zero=>cases hq
  |succ f=>
   unfold rfM at hq
   rw [hb] at hq
   dsimp only at hq
   rw [Int.toNat_natCast,hl'] at hq
   split at hq
   ·rename_i p r g1 g2
    split at hq
    ·cases hq
     have t1:SupB (hTr (swS s c) (swM s m c) l) 400:=(yf6 _ _ _ h1).mono (by
      have:=bc_le (yas h1.val)
      have h9:=h1.n14
      have:=Nat.mul_le_mul h9 h9
      have e:((swS s c).length:Int)*(swS s c).length=(((swS s c).length*(swS s c).length:Nat):Int):=by rw [Int.natCast_mul]
      have:=h1.len
      rw [e];omega)
     have t2:SupB (hTr (smS s c) (smM s m c) l') 400:=(yf6 _ _ _ h2).mono (by
      have:=bc_le (yas h2.val)
      have h9:=h2.n14
      have:=Nat.mul_le_mul h9 h9
      have e:((smS s c).length:Int)*(smS s c).length=(((smS s c).length*(smS s c).length:Nat):Int):=by rw [Int.natCast_mul]
      have:=h2.len
      rw [e];omega)
     obtain ⟨P1,hP1⟩:=yby t1 (by decide)
     obtain ⟨P2,hP2⟩:=yby t2 (by decide)
     have z1:bvZ (bvE (2*s.getD c 0) 0)=0:=ycx (by omega)
     have z2:bvZ (bvE (s.getD c 0) 1)=1:=ycx (by omega)
     have a1:bvA (bvE (2*s.getD c 0) 0)=2*s.getD c 0:=yee (by omega)
     have a2:bvA (bvE (s.getD c 0) 1)=s.getD c 0:=yee (by omega)
     rw [yzg hP hP1 hP2 t1 t2 (by decide) (by rw [a1,z1];omega) (by rw [a2,z2];omega) (fun e=>ye9 h hb hc hl' h1 h2 e2 e) b,z1,z2,i1 f p g1 P1 hP1,i2 f r g2 P2 hP2,y7i,Int.sub_zero]
    ·cases hq
   ·cases hq
end Go.Proofs.YtbblgobamoabkaaGreatDoor
set_option linter.unusedSimpArgs false
set_option linter.unusedVariables false
namespace Go.Proofs.YtbblgobamoabkaaGreatDoor
open Go Go.RowKit
set_option maxRecDepth 100000
set_option maxHeartbeats 8000000
def yd9:List (List Nat):=[[],[],[],[],[],[52,53,54,55,56],[52,53,54,55,56],[52,53,54,55,56],[52,53,54,55,56],[52,53,54,55,56],[47,48,49,50,51],[47,48,49,50,51],[47,48,49,50,51],[47,48,49,50,51],[47,48,49,50,51],[],[]]
def yea:List (List Nat):=[[],[],[],[],[],[],[],[],[],[],[5,6,7,8,9],[5,6,7,8,9],[5,6,7,8,9],[5,6,7,8,9],[5,6,7,8,9],[],[]]
theorem y55 (a b:Int) (h3: -1125899906842624<=b) (h4:b<=1125899906842624):Fn Tryz.prog 140 [I a,I b] (I (negF a b)):=by
 unfold negF
 refine Fn.intro [.tmp 4] Tryz.func140 rfl rfl (by decide) (by simp [Tryz.ntmps140]) ?_;rw [Tryz.ntmps140]
 repeat' (first|omega|(try apply yaa);simp only [go_sem,sevalprocAttr]|apply yab<;>(intro h_;(try simp only [h_]);revert h_)|apply And.intro|with_reducible intro h_|trivial|simp only [go_sem,la2];omega)
theorem y7j (q:List (Int×Int)) (hq:yev q) (hql:q.length<=500000) (hok:ycd (mrg negF [] q)=true):Fn Tryz.prog 104 [plA false q] (plA false (nz (mrg negF [] q))):=by
 have hc:=ymg [] q 140 negF (fun _ h=>by cases h) hq (by simp) hql (fun a b h1 h2 h3 h4=>y55 a b h3 h4)
 rw [if_pos hok] at hc
 have hc':=hc.arg (args':=[.agg [.bool false, .nils],plA false q, .fn 140 []]) (.cons (LeA.aggL (.cons (LeA.refl _) (.cons (LeA.nils (by omega) rfl) .nil))) (.cons (LeA.refl _) (.cons (LeA.refl _) .nil)))
 refine Fn.intro [.cell 2 47] Tryz.func104 rfl rfl (by decide) (by simp [Tryz.ntmps104]) ?_;rw [Tryz.ntmps104]
 repeat' (first|omega|(try apply yaa);simp only [go_sem,sevalprocAttr]|apply yab<;>(intro h_;(try simp only [h_]);revert h_)|apply And.intro|with_reducible intro h_|trivial|simp only [go_sem,la2];omega)
 refine ⟨yad.fn rfl hc' ?_⟩
 repeat' (first|omega|(try apply yaa);simp only [go_sem,sevalprocAttr]|apply yab<;>(intro h_;(try simp only [h_]);revert h_)|apply And.intro|with_reducible intro h_|trivial|simp only [go_sem,la2];omega)
theorem yzh (e by':Int) (h1: -1125899906842624<=e) (h2:e<=1125899906842624) (h3: -1125899906842624<=by') (h4:by'<=1125899906842624):Fn Tryz.prog 139 [I e, .rp (.lst [I by']) 0] (I (e+by')):=by
 refine Fn.intro [.tmp 3] Tryz.func139 rfl rfl (by decide) (by simp [Tryz.ntmps139]) ?_;rw [Tryz.ntmps139]
 repeat' (first|omega|(try apply yaa);simp only [go_sem,sevalprocAttr]|apply yab<;>(intro h_;(try simp only [h_]);revert h_)|apply And.intro|with_reducible intro h_|trivial|simp only [go_sem,la2];omega)
theorem y56:Fn Tryz.prog 52 [I 0, .ro 1 1 (.ints [1])] (plA false [(0,1)]):=by
 have hw1:=yc4 1 1125899906842624 (by omega) (by omega)
 have hw2:=yc4 0 1048576 (by omega) (by omega)
 rw [show fitB 1 1125899906842624=true by decide] at hw1
 rw [show fitB 0 1048576=true by decide] at hw2
 refine Fn.introL [.cell 4 47] Tryz.func52 rfl rfl (by decide) (by simp [Tryz.ntmps52]) ?_;rw [Tryz.ntmps52]
 repeat' (first|omega|(try apply yaa);simp only [go_sem,sevalprocAttr]|apply yab<;>(intro h_;(try simp only [h_]);revert h_)|apply And.intro|with_reducible intro h_|trivial|simp only [go_sem,la2];omega)
 refine yal.intro (fun n fr H=>(n=1/\fr=[(10,I 0),(9,I 1),(8, .ro 1 1 (.ints [1])),(5, .ptr 1 0),(4, .ptr 0 0),(0,I 0)]/\H=[(1, .cells 47 (.lst [.bool false, .nils])),(0, .cells 47 (.lst [.bool false, .nils]))])\/(n=0/\fr=[(10,I 1),(9,I 1),(8, .ro 1 1 (.ints [1])),(5, .ptr 1 0),(4, .ptr 0 0),(0,I 0)]/\H=[(3, .cells 97 (.lst [I 0,I 1])),(1, .cells 47 (.lst [.bool false, .sl 2 3 0 1])),(0, .cells 47 (.lst [.bool false, .nils]))])) ?_ ?_
 ·refine ⟨_,_,_,?_, .inl ⟨rfl,rfl,rfl⟩⟩
  refine Wk.sub ?_ ?_<;>simp only [go_sem,sevalprocAttr]
 rintro n fr H (⟨rfl,rfl,rfl⟩|⟨rfl,rfl,rfl⟩)
 ·repeat' (first|omega|(try apply yaa);simp only [go_sem,sevalprocAttr]|apply yab<;>(intro h_;(try simp only [h_]);revert h_)|apply And.intro|with_reducible intro h_|trivial|simp only [go_sem,la2];omega)
  refine ⟨yad.fn rfl hw1 ?_⟩
  repeat' (first|omega|(try apply yaa);simp only [go_sem,sevalprocAttr]|apply yab<;>(intro h_;(try simp only [h_]);revert h_)|apply And.intro|with_reducible intro h_|trivial|simp only [go_sem,la2];omega)
  refine ⟨yad.fn rfl hw2 ?_⟩
  repeat' (first|omega|(try apply yaa);simp only [go_sem,sevalprocAttr]|apply yab<;>(intro h_;(try simp only [h_]);revert h_)|apply And.intro|with_reducible intro h_|trivial|simp only [go_sem,la2];omega)
  refine ⟨_,_,_,?_,?_, .inr ⟨rfl,rfl,rfl⟩⟩
  ·omega
  ·refine Wk.sub ?_ ?_<;>simp only [go_sem,sevalprocAttr]
 ·repeat' (first|omega|(try apply yaa);simp only [go_sem,sevalprocAttr]|apply yab<;>(intro h_;(try simp only [h_]);revert h_)|apply And.intro|with_reducible intro h_|trivial|simp only [go_sem,la2];omega)
  all_goals exact LeA.refl _
theorem yzi (p:List (Int×Int)) (k:Int) (hk1: -1048576<=k) (hk2:k<=1048576) (hp: ∀t∈p,-1048576<=t.1/\t.1<=1048576) (hf: ∀t∈p,fitB (t.1+k) 1048576=true) (hasc:1<p.length->(p.getD 0 (0,0)).1<=(p.getD 1 (0,0)).1) (hl:p.length<=500000):
  Fn Tryz.prog 138 [plA false p, .fn 139 [.rp (.lst [I k]) 0]] (plA false (shP k p)):=by
 refine Fn.introL [.cell 4 47] Tryz.func138 rfl rfl (by decide) (by simp [Tryz.ntmps138]) ?_;rw [Tryz.ntmps138]
 repeat' (first|omega|(try apply yaa);simp only [go_sem,sevalprocAttr]|apply yab<;>(intro h_;(try simp only [h_]);revert h_)|apply And.intro|with_reducible intro h_|trivial|simp only [go_sem,la2];omega)
 refine yal.intro (fun n fr H=> ∃i:Nat,i<=p.length/\n=p.length-i/\fr=[(20,I i),(19,I p.length),(18,tmA p),(5, .ptr 3 0),(4, .ptr 1 0),(2, .ptr 0 0),(1, .fn 139 [.rp (.lst [I k]) 0])]/\H=[(3, .cells 47 (.lst [.bool false, .sl 2 2 0 i])),(2, .cells 97 (.lst (tmC (shP k (p.take i))))),(1, .cells 47 (.lst [.bool false, .nils])),(0, .cells 47 (.lst [.bool false,tmA p]))]) ?_ ?_
 ·refine ⟨_,_,_,?_,0,by omega,rfl,rfl,rfl⟩
  refine Wk.sub ?_ ?_<;>simp only [go_sem,sevalprocAttr]
  all_goals simp [shP,tmC]
 rintro n fr H ⟨i,hi,rfl,rfl,rfl⟩
 by_cases hil:i<p.length
 ·have t0:=ybk p i hil
  have t1:=ycw p i hil
  have hm:p.getD i (0,0)∈p:=by simp [hil]
  have bi:decide ((i:Int)<p.length)=true:=by simp;omega
  have hp1:=hp _ hm
  have hs:=yzh (p.getD i (0,0)).1 k (by omega) (by omega) (by omega) (by omega)
  have hw:=yc4 ((p.getD i (0,0)).1+k) 1048576 (by omega) (by omega)
  rw [hf _ hm] at hw
  repeat' (first|omega|(first|apply yaa|(refine yac.intro (id:=12) yd9 yea (by decide+kernel) mixed ?_)|skip);simp only [go_sem,sevalprocAttr,t0,t1,bi,↓reduceIte,reduceCtorEq,yd9,yea]|apply yab<;>(intro h_;(try simp only [h_]);revert h_)|apply And.intro|with_reducible intro h_|trivial|simp only [go_sem,la2];omega)
  refine ⟨yad.fn rfl hs ?_⟩
  repeat' (first|omega|(first|apply yaa|(refine yac.intro (id:=12) yd9 yea (by decide+kernel) mixed ?_)|skip);simp only [go_sem,sevalprocAttr,t0,t1,bi,↓reduceIte,reduceCtorEq,yd9,yea]|apply yab<;>(intro h_;(try simp only [h_]);revert h_)|apply And.intro|with_reducible intro h_|trivial|simp only [go_sem,la2];omega)
  refine ⟨yad.fn rfl hw ?_⟩
  repeat' (first|omega|(first|apply yaa|(refine yac.intro (id:=12) yd9 yea (by decide+kernel) mixed ?_)|skip);simp only [go_sem,sevalprocAttr,t0,t1,bi,↓reduceIte,reduceCtorEq,yd9,yea]|apply yab<;>(intro h_;(try simp only [h_]);revert h_)|apply And.intro|with_reducible intro h_|trivial|simp only [go_sem,la2];omega)
  ·simp [shP];omega
  refine ⟨_,_,_,?_,?_,⟨i+1,by omega,rfl,rfl,rfl⟩⟩
  ·omega
  ·have e:shP k (p.take (i+1))=shP k (p.take i)++[((p.getD i (0,0)).1+k,(p.getD i (0,0)).2)]:=by
    unfold shP
    rw [List.take_add_one,List.map_append,List.getElem?_eq_getElem hil]
    simp [hil]
   rw [yif,←e]
   refine Wk.sub ?_ ?_<;>simp only [go_sem,sevalprocAttr]
 ·obtain rfl:i=p.length:=by omega
  rw [List.take_length]
  have bi:decide ((p.length:Int)<p.length)=false:=by simp
  have hle:(shP k p).length=p.length:=by simp [shP]
  by_cases h2:1<p.length
  ·have t0:=ybk (shP k p) 0 (by omega)
   have t1:=ybk (shP k p) 1 (by omega)
   have b2:decide ((1:Int)<p.length)=true:=by simp;omega
   have b3:decide (((shP k p).getD 1 (0,0)).1<((shP k p).getD 0 (0,0)).1)=false:=by
    have:=hasc h2
    unfold shP
    match p,h2 with
    |x::y::r,_=>simp at this⊢;omega
   repeat' (first|omega|(first|apply yaa|(refine yac.intro (id:=12) yd9 yea (by decide+kernel) mixed ?_)|skip);simp only [go_sem,sevalprocAttr,t0,t1,bi,b2,b3,↓reduceIte,reduceCtorEq,yd9,yea]|apply yab<;>(intro h_;(try simp only [h_]);revert h_)|apply And.intro|with_reducible intro h_|trivial|simp only [go_sem,la2];omega)
   all_goals (rw [List.take_of_length_le (by rw [ybm,hle];omega),hle];exact LeA.refl _)
  ·have b2:decide ((1:Int)<p.length)=false:=by simp;omega
   repeat' (first|omega|(first|apply yaa|(refine yac.intro (id:=12) yd9 yea (by decide+kernel) mixed ?_)|skip);simp only [go_sem,sevalprocAttr,bi,b2,↓reduceIte,reduceCtorEq,yd9,yea]|apply yab<;>(intro h_;(try simp only [h_]);revert h_)|apply And.intro|with_reducible intro h_|trivial|simp only [go_sem,la2];omega)
   all_goals (rw [List.take_of_length_le (by rw [ybm,hle];omega),hle];exact LeA.refl _)
theorem y2i (p:List (Int×Int)) (k:Int) (hk1: -1048576<=k) (hk2:k<=1048576) (hp: ∀t∈p,-1048576<=t.1/\t.1<=1048576) (hf: ∀t∈p,fitB (t.1+k) 1048576=true) (hasc:1<p.length->(p.getD 0 (0,0)).1<=(p.getD 1 (0,0)).1) (hl:p.length<=500000):
  Fn Tryz.prog 103 [plA false p,I k] (plA false (shP k p)):=by
 have hm:=yzi p k hk1 hk2 hp hf hasc hl
 have hw:=yc4 k 2097152 (by omega) (by omega)
 rw [show fitB k 2097152=true by unfold fitB;simp;omega] at hw
 refine Fn.intro [.cell 4 47] Tryz.func103 rfl rfl (by decide) (by simp [Tryz.ntmps103]) ?_;rw [Tryz.ntmps103]
 repeat' (first|omega|(try apply yaa);simp only [go_sem,sevalprocAttr]|apply yab<;>(intro h_;(try simp only [h_]);revert h_)|apply And.intro|with_reducible intro h_|trivial|simp only [go_sem,la2];omega)
 refine ⟨yad.fn rfl hw ?_⟩
 repeat' (first|omega|(try apply yaa);simp only [go_sem,sevalprocAttr]|apply yab<;>(intro h_;(try simp only [h_]);revert h_)|apply And.intro|with_reducible intro h_|trivial|simp only [go_sem,la2];omega)
 refine ⟨yad.frz [1] rfl (by simp only [go_sem,sevalprocAttr]) (by simp only [go_sem,sevalprocAttr]) (by simp only [go_sem,sevalprocAttr]) (by simp only [go_sem,sevalprocAttr]) rfl rfl rfl (yad.fn rfl hm ?_)⟩
 repeat' (first|omega|(try apply yaa);simp only [go_sem,sevalprocAttr]|apply yab<;>(intro h_;(try simp only [h_]);revert h_)|apply And.intro|with_reducible intro h_|trivial|simp only [go_sem,la2];omega)
end Go.Proofs.YtbblgobamoabkaaGreatDoor
