/- Layer 20: the resolution. -/
import Derived.Test.YtbblgobamoabkaaGreatDoorZj
import Derived.Test.YtbblgobamoabkaaGreatDoorZk
import Derived.Test.YtbblgobamoabkaaGreatDoorZo
namespace Go.Proofs.YtbblgobamoabkaaGreatDoor
open Go Go.RowKit
set_option maxRecDepth 100000
set_option maxHeartbeats 16000000
set_option linter.unusedVariables false
set_option linter.unusedSimpArgs false
def PwOk (l:List (Int×AV)):Prop:= ∀(n:Int) (x:AV),yco l n=some x-> ∃(k:Nat) (q:List (Int×Int)),n=k/\yak q (Hs.XE k)/\x=bvP false q
theorem PwOk.nil:PwOk []:=fun n x h=>by simp [yco] at h
theorem yye (l:List (Int×AV)) (n:Int) (v:AV) (n':Int):yco (lput l n v) n'=if n=n' then some v else yco l n':=by
 induction l with
 |nil=>
  simp only [lput,yco,List.find?_cons,List.find?_nil]
  by_cases h:n=n'
  ·simp [h]
  ·rw [if_neg h,beq_eq_false_iff_ne.2 h]
 |cons q l ih=>
  simp only [lput]
  by_cases hq:q.1=n
  ·rw [if_pos hq]
   simp only [yco,List.find?_cons]
   by_cases h:n=n'
   ·simp [h]
   ·have h2: ¬q.1=n':=by rw [hq];exact h
    rw [if_neg h,beq_eq_false_iff_ne.2 h,beq_eq_false_iff_ne.2 h2]
  ·rw [if_neg hq]
   simp only [yco,List.find?_cons] at ih⊢
   by_cases h:q.1=n'
   ·have: ¬n=n':=fun e=>hq (h.trans e.symm)
    simp [h,this]
   ·simp only [beq_eq_false_iff_ne.2 h];exact ih
theorem PwOk.put {l:List (Int×AV)} (h:PwOk l) {k:Nat} {q:List (Int×Int)} (hq:yak q (Hs.XE k)):PwOk (lput l k (bvP false q)):=fun n x hx=>by
 rw [yye] at hx
 by_cases e:(k:Int)=n
 ·rw [if_pos e] at hx;cases hx;exact ⟨k,q,e.symm,hq,rfl⟩
 ·rw [if_neg e] at hx;exact h n x hx
abbrev rsO:AObj:= .cells 60 (.lst [.fn 28 [.ptr 4 0, .ptr 5 0, .ptr 3 0]])
abbrev okO:AObj:= .cells 4 (.lst [.bool true])
structure HB (H:Hp) (l:List (Int×AV)):Prop where
 h5:hget H 5=some rsO
 h4:hget H 4=some okO
 h3:hget H 3=some (.cells 59 (.lst [.mp 2]))
 h2:hget H 2=some (.imap 59 l)
 lt:5<hnew H
theorem yll: ∀(H:Hp) (i:Nat) (o:AObj),hnew (hset H i o)=hnew H
 |[],_,_=>rfl
 |(j,u)::H,i,o=>by
  simp only [hset]
  by_cases h:j=i
  ·rw [if_pos h,h];rfl
  ·rw [if_neg h];simp only [hnew,yll H i o]
theorem yjn {i:Nat} {H:Hp}: ∀{X:Hp},(∀q∈X,q.1≠i)->hget (X++H) i=hget H i
 |[],_=>rfl
 |(j,u)::X,h=>by
  rw [List.cons_append]
  simp only [hget]
  rw [if_neg (h (j,u) (List.mem_cons_self ..))]
  exact yjn fun q hq=>h q (List.mem_cons_of_mem _ hq)
theorem yjo {H:Hp}: ∀X:Hp,hnew H<=hnew (X++H)
 |[]=>Nat.le_refl _
 |(j,u)::X=>by
  have:=yjo (H:=H) X
  rw [List.cons_append]
  simp only [hnew]
  omega
theorem y38 {H X:Hp} {l:List (Int×AV)} (hH:HB H l) (l':List (Int×AV)) (hX: ∀q∈X,hnew H<=q.1):HB (X++hset H 2 (.imap 59 l')) l'/\hnew H<=hnew (X++hset H 2 (.imap 59 l'))/\ ∀i,i<hnew H->i≠2->hget (X++hset H 2 (.imap 59 l')) i=hget H i:=by
 obtain ⟨k5,k4,k3,k2,kN⟩:=hH
 have hn:=yjo (H:=hset H 2 (.imap 59 l')) X
 rw [yll] at hn
 have hg: ∀i,i<hnew H->hget (X++hset H 2 (.imap 59 l')) i=hget (hset H 2 (.imap 59 l')) i:=fun i hi=>yjn fun q hq he=>by
  have:=hX q hq;omega
 refine ⟨⟨?_,?_,?_,?_,by omega⟩,hn,fun i hi h2=>by rw [hg i hi,yaf (Ne.symm h2)]⟩
 ·rw [hg 5 kN,yaf (by decide)];exact k5
 ·rw [hg 4 (by omega),yaf (by decide)];exact k4
 ·rw [hg 3 (by omega),yaf (by decide)];exact k3
 ·rw [hg 2 (by omega),ya2 k2]
theorem yqo {H H2 X:Hp} {l:List (Int×AV)} {N:Nat} (hH:HB H2 l) (hN:N<=hnew H2) (h5:5<N) (hg: ∀i,i<N->i≠2->hget H2 i=hget H i) (n1:Nat) (h1:N<=n1) (o:AObj) (hX: ∀q∈X,N<=q.1):HB (X++hset H2 n1 o) l/\N<=hnew (X++hset H2 n1 o)/\ ∀i,i<N->i≠2->hget (X++hset H2 n1 o) i=hget H i:=by
 obtain ⟨k5,k4,k3,k2,kN⟩:=hH
 have hn:=yjo (H:=hset H2 n1 o) X
 rw [yll] at hn
 have hs: ∀i,i<N->hget (X++hset H2 n1 o) i=hget H2 i:=fun i hi=>by
  rw [yjn fun q hq he=>by have:=hX q hq;omega,yaf (by omega)]
 refine ⟨⟨?_,?_,?_,?_,by omega⟩,by omega,fun i hi h2=>by rw [hs i hi];exact hg i hi h2⟩
 ·rw [hs 5 h5];exact k5
 ·rw [hs 4 (by omega)];exact k4
 ·rw [hs 3 (by omega)];exact k3
 ·rw [hs 2 (by omega)];exact k2
theorem yqp {WB MB:Nat} {F:List Int->List Int->Nat->Int->Int} (hF:HomV WB MB F): ∀(s m:List Int) (L:Nat),ybg s m L->s.length<=WB/\3*s.length+L<=MB-> ∀(p:List (Int×Int)),yak p (F s m L)-> ∀(l:List (Int×AV)),PwOk l-> ∀(H:Hp),HB H l-> ∀(fr:Fr) (K:AV->Fr->Hp->Prop),
  (∀(H':Hp) (l':List (Int×AV)),PwOk l'->HB H' l'->hnew H<=hnew H'->(∀i,i<hnew H->i≠2->hget H' i=hget H i)->K (bvP false p) fr H')->
  ych Tryz.prog 28 [dgA s m L, .ptr 4 0, .ptr 5 0, .ptr 3 0] fr H K:=by
 refine yga (fun s m L h hb hMB p hp l hl H hH fr K hK=>?_) fun s m L c L' h hb hc hsg hL' h1 e1 h2 e2 ih1 ih2 hMB p hp l hl H hH fr K hK=>?_
 ·obtain ⟨k5,k4,k3,k2,kN⟩:=hH
  have hR:=ymp s m L (fun _=>by have:=h.len;omega)
  have hC:=yos s m L
  unfold resA at hR
  rw [if_pos h.val] at hR hC
  rw [hb] at hR
  dsimp only at hR
  have hs:(yam s m).length+L<=45:=by
   have h3:=yby s m
   have h4:=(ya1 h.val).len
   have:=h.len
   have:=h.n14
   omega
  have hs1:1<=(yam s m).length+L:=by
   rcases h.pos with h3|h3
   ·have:=Sp.strands_pos (ya1 h.val) h3;omega
   ·omega
  obtain ⟨k,hk⟩: ∃k,L+(yam s m).length=k:=⟨_,rfl⟩
  have hpk:yak p (Hs.XE k):=hp.congr fun e=>by rw [hF.desc h hMB hb,hk]
  have ek:((yam s m).length:Int)+(L:Int)=k:=by omega
  rw [ek] at hC
  have hB:=yke false p
  have hCi:=yu3 k (by omega) hpk
  have s24: ∀o,hget (hset H 2 o) 4=some okO:=fun o=>by rw [yaf (by decide)];exact k4
  have w4:hset H 4 okO=H:=yci k4
  have w24: ∀o,hset (hset H 2 o) 4 okO=hset H 2 o:=fun o=>yci (s24 o)
  have hE:=fun (X:Hp) (l':List (Int×AV))=>y38 (X:=X) ⟨k5,k4,k3,k2,kN⟩ l'
  generalize hN:hnew H=N at*
  obtain ⟨N1,EN1⟩: ∃x,N+1=x:=⟨_,rfl⟩
  obtain ⟨N2,EN2⟩: ∃x,N1+1=x:=⟨_,rfl⟩
  obtain ⟨N3,EN3⟩: ∃x,N2+1=x:=⟨_,rfl⟩
  obtain ⟨N4,EN4⟩: ∃x,N3+1=x:=⟨_,rfl⟩
  obtain ⟨N5,EN5⟩: ∃x,N4+1=x:=⟨_,rfl⟩
  have FqN2:(N=2)=False:=eq_false (by omega)
  have Fq2N:(2=N)=False:=eq_false (by omega)
  have FqN3:(N=3)=False:=eq_false (by omega)
  have Fq3N:(3=N)=False:=eq_false (by omega)
  have FqN4:(N=4)=False:=eq_false (by omega)
  have Fq4N:(4=N)=False:=eq_false (by omega)
  have FqN5:(N=5)=False:=eq_false (by omega)
  have Fq5N:(5=N)=False:=eq_false (by omega)
  have FqN12:(N1=2)=False:=eq_false (by omega)
  have Fq2N1:(2=N1)=False:=eq_false (by omega)
  have FqN13:(N1=3)=False:=eq_false (by omega)
  have Fq3N1:(3=N1)=False:=eq_false (by omega)
  have FqN14:(N1=4)=False:=eq_false (by omega)
  have Fq4N1:(4=N1)=False:=eq_false (by omega)
  have FqN15:(N1=5)=False:=eq_false (by omega)
  have Fq5N1:(5=N1)=False:=eq_false (by omega)
  have FqN22:(N2=2)=False:=eq_false (by omega)
  have Fq2N2:(2=N2)=False:=eq_false (by omega)
  have FqN23:(N2=3)=False:=eq_false (by omega)
  have Fq3N2:(3=N2)=False:=eq_false (by omega)
  have FqN24:(N2=4)=False:=eq_false (by omega)
  have Fq4N2:(4=N2)=False:=eq_false (by omega)
  have FqN25:(N2=5)=False:=eq_false (by omega)
  have Fq5N2:(5=N2)=False:=eq_false (by omega)
  have FqN32:(N3=2)=False:=eq_false (by omega)
  have Fq2N3:(2=N3)=False:=eq_false (by omega)
  have FqN33:(N3=3)=False:=eq_false (by omega)
  have Fq3N3:(3=N3)=False:=eq_false (by omega)
  have FqN34:(N3=4)=False:=eq_false (by omega)
  have Fq4N3:(4=N3)=False:=eq_false (by omega)
  have FqN35:(N3=5)=False:=eq_false (by omega)
  have Fq5N3:(5=N3)=False:=eq_false (by omega)
  have FqN42:(N4=2)=False:=eq_false (by omega)
  have Fq2N4:(2=N4)=False:=eq_false (by omega)
  have FqN43:(N4=3)=False:=eq_false (by omega)
  have Fq3N4:(3=N4)=False:=eq_false (by omega)
  have FqN44:(N4=4)=False:=eq_false (by omega)
  have Fq4N4:(4=N4)=False:=eq_false (by omega)
  have FqN45:(N4=5)=False:=eq_false (by omega)
  have Fq5N4:(5=N4)=False:=eq_false (by omega)
  have FqN52:(N5=2)=False:=eq_false (by omega)
  have Fq2N5:(2=N5)=False:=eq_false (by omega)
  have FqN53:(N5=3)=False:=eq_false (by omega)
  have Fq3N5:(3=N5)=False:=eq_false (by omega)
  have FqN54:(N5=4)=False:=eq_false (by omega)
  have Fq4N5:(4=N5)=False:=eq_false (by omega)
  have FqN55:(N5=5)=False:=eq_false (by omega)
  have Fq5N5:(5=N5)=False:=eq_false (by omega)
  have FqN1N:(N1=N)=False:=eq_false (by omega)
  have FqNN1:(N=N1)=False:=eq_false (by omega)
  have FlN1N:(N1<=N)=False:=eq_false (by omega)
  have FqN2N:(N2=N)=False:=eq_false (by omega)
  have FqNN2:(N=N2)=False:=eq_false (by omega)
  have FlN2N:(N2<=N)=False:=eq_false (by omega)
  have FqN2N1:(N2=N1)=False:=eq_false (by omega)
  have FqN1N2:(N1=N2)=False:=eq_false (by omega)
  have FlN2N1:(N2<=N1)=False:=eq_false (by omega)
  have FqN3N:(N3=N)=False:=eq_false (by omega)
  have FqNN3:(N=N3)=False:=eq_false (by omega)
  have FlN3N:(N3<=N)=False:=eq_false (by omega)
  have FqN3N1:(N3=N1)=False:=eq_false (by omega)
  have FqN1N3:(N1=N3)=False:=eq_false (by omega)
  have FlN3N1:(N3<=N1)=False:=eq_false (by omega)
  have FqN3N2:(N3=N2)=False:=eq_false (by omega)
  have FqN2N3:(N2=N3)=False:=eq_false (by omega)
  have FlN3N2:(N3<=N2)=False:=eq_false (by omega)
  have FqN4N:(N4=N)=False:=eq_false (by omega)
  have FqNN4:(N=N4)=False:=eq_false (by omega)
  have FlN4N:(N4<=N)=False:=eq_false (by omega)
  have FqN4N1:(N4=N1)=False:=eq_false (by omega)
  have FqN1N4:(N1=N4)=False:=eq_false (by omega)
  have FlN4N1:(N4<=N1)=False:=eq_false (by omega)
  have FqN4N2:(N4=N2)=False:=eq_false (by omega)
  have FqN2N4:(N2=N4)=False:=eq_false (by omega)
  have FlN4N2:(N4<=N2)=False:=eq_false (by omega)
  have FqN4N3:(N4=N3)=False:=eq_false (by omega)
  have FqN3N4:(N3=N4)=False:=eq_false (by omega)
  have FlN4N3:(N4<=N3)=False:=eq_false (by omega)
  have FqN5N:(N5=N)=False:=eq_false (by omega)
  have FqNN5:(N=N5)=False:=eq_false (by omega)
  have FlN5N:(N5<=N)=False:=eq_false (by omega)
  have FqN5N1:(N5=N1)=False:=eq_false (by omega)
  have FqN1N5:(N1=N5)=False:=eq_false (by omega)
  have FlN5N1:(N5<=N1)=False:=eq_false (by omega)
  have FqN5N2:(N5=N2)=False:=eq_false (by omega)
  have FqN2N5:(N2=N5)=False:=eq_false (by omega)
  have FlN5N2:(N5<=N2)=False:=eq_false (by omega)
  have FqN5N3:(N5=N3)=False:=eq_false (by omega)
  have FqN3N5:(N3=N5)=False:=eq_false (by omega)
  have FlN5N3:(N5<=N3)=False:=eq_false (by omega)
  have FqN5N4:(N5=N4)=False:=eq_false (by omega)
  have FqN4N5:(N4=N5)=False:=eq_false (by omega)
  have FlN5N4:(N5<=N4)=False:=eq_false (by omega)
  cases hf:yco l k with
  |none=>
   refine ych.intro [.cell 5 29] Tryz.func28 rfl rfl (by decide) (by simp [Tryz.ntmps28]) ?_;rw [Tryz.ntmps28]
   repeat' (first|omega|(try apply yaa);simp only [go_sem,sevalprocAttr,hN,k2,k3,k4,k5,hf,s24,w4,w24,EN1,EN2,EN3,EN4,FqN2,Fq2N,FqN3,Fq3N,FqN4,Fq4N,FqN5,Fq5N,FqN12,Fq2N1,FqN13,Fq3N1,FqN14,Fq4N1,FqN15,Fq5N1,FqN22,Fq2N2,FqN23,Fq3N2,FqN24,Fq4N2,FqN25,Fq5N2,FqN32,Fq2N3,FqN33,Fq3N3,FqN34,Fq4N3,FqN35,Fq5N3,FqN42,Fq2N4,FqN43,Fq3N4,FqN44,Fq4N4,FqN45,Fq5N4,FqN1N,FqNN1,FlN1N,FqN2N,FqNN2,FlN2N,FqN2N1,FqN1N2,FlN2N1,FqN3N,FqNN3,FlN3N,FqN3N1,FqN1N3,FlN3N1,FqN3N2,FqN2N3,FlN3N2,FqN4N,FqNN4,FlN4N,FqN4N1,FqN1N4,FlN4N1,FqN4N2,FqN2N4,FlN4N2,FqN4N3,FqN3N4,FlN4N3]|(refine ⟨yae.fn (r:=?_) rfl ?_ ?_⟩;rotate_left;assumption)|(refine ⟨yai.fn (r:=?_) rfl ?_ ?_⟩;rotate_left;assumption)|apply yab<;>(intro h_;(try simp only [h_]);revert h_)|apply And.intro|with_reducible intro h_|trivial|simp only [go_sem,la2];omega)
   all_goals
    obtain ⟨z1,z2,z3⟩:=hE [(N4,_),(N3,_),(N2,_),(N1,_),(N,_)] (lput l k (bvP false p)) (by simp only [List.forall_mem_cons];exact ⟨by omega,by omega,by omega,by omega,by omega,fun _ h=>by cases h⟩)
    exact hK _ _ (hl.put hpk) z1 z2 z3
  |some x=>
   obtain ⟨k',q',e1,e2,rfl⟩:=hl _ _ hf
   obtain rfl:k'=k:=by omega
   obtain rfl:q'=p:=e2.uniq hpk
   have e0:H=hset H 2 (.imap 59 l):=(yci k2).symm
   refine ych.intro [.cell 5 29] Tryz.func28 rfl rfl (by decide) (by simp [Tryz.ntmps28]) ?_;rw [Tryz.ntmps28]
   repeat' (first|omega|(try apply yaa);simp only [go_sem,sevalprocAttr,hN,k2,k3,k4,k5,hf,s24,w4,w24,EN1,EN2,EN3,EN4,FqN2,Fq2N,FqN3,Fq3N,FqN4,Fq4N,FqN5,Fq5N,FqN12,Fq2N1,FqN13,Fq3N1,FqN14,Fq4N1,FqN15,Fq5N1,FqN22,Fq2N2,FqN23,Fq3N2,FqN24,Fq4N2,FqN25,Fq5N2,FqN32,Fq2N3,FqN33,Fq3N3,FqN34,Fq4N3,FqN35,Fq5N3,FqN42,Fq2N4,FqN43,Fq3N4,FqN44,Fq4N4,FqN45,Fq5N4,FqN1N,FqNN1,FlN1N,FqN2N,FqNN2,FlN2N,FqN2N1,FqN1N2,FlN2N1,FqN3N,FqNN3,FlN3N,FqN3N1,FqN1N3,FlN3N1,FqN3N2,FqN2N3,FlN3N2,FqN4N,FqNN4,FlN4N,FqN4N1,FqN1N4,FlN4N1,FqN4N2,FqN2N4,FlN4N2,FqN4N3,FqN3N4,FlN4N3]|(refine ⟨yae.fn (r:=?_) rfl ?_ ?_⟩;rotate_left;assumption)|(refine ⟨yai.fn (r:=?_) rfl ?_ ?_⟩;rotate_left;assumption)|apply yab<;>(intro h_;(try simp only [h_]);revert h_)|apply And.intro|with_reducible intro h_|trivial|simp only [go_sem,la2];omega)
   all_goals
    obtain ⟨z1,z2,z3⟩:=hE [(N4,_),(N3,_),(N2,_),(N1,_),(N,_)] l (by simp only [List.forall_mem_cons];exact ⟨by omega,by omega,by omega,by omega,by omega,fun _ h=>by cases h⟩)
    rw [←e0] at z1 z2 z3
    exact hK _ _ hl z1 z2 z3
 ·obtain ⟨k5,k4,k3,k2,kN⟩:=hH
  have hR:=ymp s m L (fun _=>by have:=h.len;omega)
  unfold resA at hR
  rw [if_pos h.val] at hR
  rw [hb] at hR
  dsimp only at hR
  rw [Int.toNat_natCast,hL'] at hR
  have hlen:=h.len
  have hl1:=h1.len
  have hl2:=h2.len
  have v1:=ya1 h1.val
  have v2:=ya1 h2.val
  obtain ⟨hM1,hM2⟩:=yx4 h hMB hc hL' e1 e2
  have S1:=hF.sup h1 hM1
  have S2:=hF.sup h2 hM2
  obtain ⟨q1,hq1⟩:=ybo S1 (by decide)
  obtain ⟨q2,hq2⟩:=ybo S2 (by decide)
  have B1:=hF.bnd h1 hM1
  have B2:=hF.bnd h2 hM2
  have B0:=hF.bnd h hMB
  have st:=hF.step h hMB hb hc hL' h1 h2
  have s24: ∀o,hget (hset H 2 o) 4=some okO:=fun o=>by rw [yaf (by decide)];exact k4
  have w4:hset H 4 okO=H:=yci k4
  have w24: ∀o,hset (hset H 2 o) 4 okO=hset H 2 o:=fun o=>yci (s24 o)
  have hB:=yke false p
  generalize hN:hnew H=N at*
  obtain ⟨N1,EN1⟩: ∃x,N+1=x:=⟨_,rfl⟩
  obtain ⟨N2,EN2⟩: ∃x,N1+1=x:=⟨_,rfl⟩
  obtain ⟨N3,EN3⟩: ∃x,N2+1=x:=⟨_,rfl⟩
  obtain ⟨N4,EN4⟩: ∃x,N3+1=x:=⟨_,rfl⟩
  have FqN2:(N=2)=False:=eq_false (by omega)
  have Fq2N:(2=N)=False:=eq_false (by omega)
  have FqN3:(N=3)=False:=eq_false (by omega)
  have Fq3N:(3=N)=False:=eq_false (by omega)
  have FqN4:(N=4)=False:=eq_false (by omega)
  have Fq4N:(4=N)=False:=eq_false (by omega)
  have FqN5:(N=5)=False:=eq_false (by omega)
  have Fq5N:(5=N)=False:=eq_false (by omega)
  have FqN12:(N1=2)=False:=eq_false (by omega)
  have Fq2N1:(2=N1)=False:=eq_false (by omega)
  have FqN13:(N1=3)=False:=eq_false (by omega)
  have Fq3N1:(3=N1)=False:=eq_false (by omega)
  have FqN14:(N1=4)=False:=eq_false (by omega)
  have Fq4N1:(4=N1)=False:=eq_false (by omega)
  have FqN15:(N1=5)=False:=eq_false (by omega)
  have Fq5N1:(5=N1)=False:=eq_false (by omega)
  have FqN22:(N2=2)=False:=eq_false (by omega)
  have Fq2N2:(2=N2)=False:=eq_false (by omega)
  have FqN23:(N2=3)=False:=eq_false (by omega)
  have Fq3N2:(3=N2)=False:=eq_false (by omega)
  have FqN24:(N2=4)=False:=eq_false (by omega)
  have Fq4N2:(4=N2)=False:=eq_false (by omega)
  have FqN25:(N2=5)=False:=eq_false (by omega)
  have Fq5N2:(5=N2)=False:=eq_false (by omega)
  have FqN32:(N3=2)=False:=eq_false (by omega)
  have Fq2N3:(2=N3)=False:=eq_false (by omega)
  have FqN33:(N3=3)=False:=eq_false (by omega)
  have Fq3N3:(3=N3)=False:=eq_false (by omega)
  have FqN34:(N3=4)=False:=eq_false (by omega)
  have Fq4N3:(4=N3)=False:=eq_false (by omega)
  have FqN35:(N3=5)=False:=eq_false (by omega)
  have Fq5N3:(5=N3)=False:=eq_false (by omega)
  have FqN42:(N4=2)=False:=eq_false (by omega)
  have Fq2N4:(2=N4)=False:=eq_false (by omega)
  have FqN43:(N4=3)=False:=eq_false (by omega)
  have Fq3N4:(3=N4)=False:=eq_false (by omega)
  have FqN44:(N4=4)=False:=eq_false (by omega)
  have Fq4N4:(4=N4)=False:=eq_false (by omega)
  have FqN45:(N4=5)=False:=eq_false (by omega)
  have Fq5N4:(5=N4)=False:=eq_false (by omega)
  have FqN1N:(N1=N)=False:=eq_false (by omega)
  have FqNN1:(N=N1)=False:=eq_false (by omega)
  have FlN1N:(N1<=N)=False:=eq_false (by omega)
  have FqN2N:(N2=N)=False:=eq_false (by omega)
  have FqNN2:(N=N2)=False:=eq_false (by omega)
  have FlN2N:(N2<=N)=False:=eq_false (by omega)
  have FqN2N1:(N2=N1)=False:=eq_false (by omega)
  have FqN1N2:(N1=N2)=False:=eq_false (by omega)
  have FlN2N1:(N2<=N1)=False:=eq_false (by omega)
  have FqN3N:(N3=N)=False:=eq_false (by omega)
  have FqNN3:(N=N3)=False:=eq_false (by omega)
  have FlN3N:(N3<=N)=False:=eq_false (by omega)
  have FqN3N1:(N3=N1)=False:=eq_false (by omega)
  have FqN1N3:(N1=N3)=False:=eq_false (by omega)
  have FlN3N1:(N3<=N1)=False:=eq_false (by omega)
  have FqN3N2:(N3=N2)=False:=eq_false (by omega)
  have FqN2N3:(N2=N3)=False:=eq_false (by omega)
  have FlN3N2:(N3<=N2)=False:=eq_false (by omega)
  have FqN4N:(N4=N)=False:=eq_false (by omega)
  have FqNN4:(N=N4)=False:=eq_false (by omega)
  have FlN4N:(N4<=N)=False:=eq_false (by omega)
  have FqN4N1:(N4=N1)=False:=eq_false (by omega)
  have FqN1N4:(N1=N4)=False:=eq_false (by omega)
  have FlN4N1:(N4<=N1)=False:=eq_false (by omega)
  have FqN4N2:(N4=N2)=False:=eq_false (by omega)
  have FqN2N4:(N2=N4)=False:=eq_false (by omega)
  have FlN4N2:(N4<=N2)=False:=eq_false (by omega)
  have FqN4N3:(N4=N3)=False:=eq_false (by omega)
  have FqN3N4:(N3=N4)=False:=eq_false (by omega)
  have FlN4N3:(N4<=N3)=False:=eq_false (by omega)
  rcases hsg with hsv|hsv
  ·have hS2:=yhb q2 1 1 (hq2.lenB S2 (by omega)) (by decide) (by decide) (fun t ht=>by have:=hq2.memB S2 ht;omega)
   have hS1:=yhb q1 2 0 (hq1.lenB S1 (by omega)) (by decide) (by decide) (fun t ht=>by have:=hq1.memB S1 ht;omega)
   have hA:=y30 (r:=p) (N:=150) (hq1.shift (bvE 2 0)) (hq2.shift (bvE 1 1)) ((S1.shift (a:=2) (z:=0) (M:=2) (by decide) (by decide) (by omega) (by decide)).mono (by omega)) ((S2.shift (a:=1) (z:=1) (M:=2) (by decide) (by decide) (by omega) (by decide)).mono (by omega)) (by decide) (fun e=>B1 _) (fun e=>B2 _) (hp.congr fun e=>by rw [st e,hsv];rfl) (fun e=>by
    have:=B0 e
    rw [st e,hsv] at this
    exact this)
   rw [show (q1.map fun t=>(t.1+bvE 2 0,t.2))=bvSh (bvE 2 0) q1 from rfl,show (q2.map fun t=>(t.1+bvE 1 1,t.2))=bvSh (bvE 1 1) q2 from rfl] at hA
   refine ych.intro [.cell 5 29] Tryz.func28 rfl rfl (by decide) (by simp [Tryz.ntmps28]) ?_;rw [Tryz.ntmps28]
   repeat' (first|omega|(try apply yaa);simp only [go_sem,sevalprocAttr,hN,k2,k3,k4,k5,s24,w4,w24,hsv,EN1,EN2,EN3,EN4,FqN2,Fq2N,FqN3,Fq3N,FqN4,Fq4N,FqN5,Fq5N,FqN12,Fq2N1,FqN13,Fq3N1,FqN14,Fq4N1,FqN15,Fq5N1,FqN22,Fq2N2,FqN23,Fq3N2,FqN24,Fq4N2,FqN25,Fq5N2,FqN32,Fq2N3,FqN33,Fq3N3,FqN34,Fq4N3,FqN35,Fq5N3,FqN42,Fq2N4,FqN43,Fq3N4,FqN44,Fq4N4,FqN45,Fq5N4,FqN1N,FqNN1,FlN1N,FqN2N,FqNN2,FlN2N,FqN2N1,FqN1N2,FlN2N1,FqN3N,FqNN3,FlN3N,FqN3N1,FqN1N3,FlN3N1,FqN3N2,FqN2N3,FlN3N2,FqN4N,FqNN4,FlN4N,FqN4N1,FqN1N4,FlN4N1,FqN4N2,FqN2N4,FlN4N2,FqN4N3,FqN3N4,FlN4N3]|(refine ⟨yae.fn (r:=?_) rfl ?_ ?_⟩;rotate_left;assumption)|(refine ⟨yai.fn (r:=?_) rfl ?_ ?_⟩;rotate_left;assumption)|apply yab<;>(intro h_;(try simp only [h_]);revert h_)|apply And.intro|with_reducible intro h_|trivial|simp only [go_sem,la2];omega)
   refine ⟨yae.inline (ih2 hM2 q2 hq2 l hl _ ?_ _ _ fun H1 l1 w1 w2 w3 w5=>?_)⟩
   ·constructor<;>(simp only [go_sem,sevalprocAttr,hN,k2,k3,k4,k5,EN1,EN2,EN3,EN4,FqN2,Fq2N,FqN3,Fq3N,FqN4,Fq4N,FqN5,Fq5N,FqN12,Fq2N1,FqN13,Fq3N1,FqN14,Fq4N1,FqN15,Fq5N1,FqN22,Fq2N2,FqN23,Fq3N2,FqN24,Fq4N2,FqN25,Fq5N2,FqN32,Fq2N3,FqN33,Fq3N3,FqN34,Fq4N3,FqN35,Fq5N3,FqN42,Fq2N4,FqN43,Fq3N4,FqN44,Fq4N4,FqN45,Fq5N4,FqN1N,FqNN1,FlN1N,FqN2N,FqNN2,FlN2N,FqN2N1,FqN1N2,FlN2N1,FqN3N,FqNN3,FlN3N,FqN3N1,FqN1N3,FlN3N1,FqN3N2,FqN2N3,FlN3N2,FqN4N,FqNN4,FlN4N,FqN4N1,FqN1N4,FlN4N1,FqN4N2,FqN2N4,FlN4N2,FqN4N3,FqN3N4,FlN4N3])
    all_goals omega
   clear ih2
   obtain ⟨i5,i4,i3,i2,iN⟩:=w2
   simp only [go_sem,sevalprocAttr,hN,EN1,EN2,EN3,EN4,FqN2,Fq2N,FqN3,Fq3N,FqN4,Fq4N,FqN5,Fq5N,FqN12,Fq2N1,FqN13,Fq3N1,FqN14,Fq4N1,FqN15,Fq5N1,FqN22,Fq2N2,FqN23,Fq3N2,FqN24,Fq4N2,FqN25,Fq5N2,FqN32,Fq2N3,FqN33,Fq3N3,FqN34,Fq4N3,FqN35,Fq5N3,FqN42,Fq2N4,FqN43,Fq3N4,FqN44,Fq4N4,FqN45,Fq5N4,FqN1N,FqNN1,FlN1N,FqN2N,FqNN2,FlN2N,FqN2N1,FqN1N2,FlN2N1,FqN3N,FqNN3,FlN3N,FqN3N1,FqN1N3,FlN3N1,FqN3N2,FqN2N3,FlN3N2,FqN4N,FqNN4,FlN4N,FqN4N1,FqN1N4,FlN4N1,FqN4N2,FqN2N4,FlN4N2,FqN4N3,FqN3N4,FlN4N3] at w3 w5
   have u0:=w5 N (by omega) (by omega)
   have u1:=w5 N1 (by omega) (by omega)
   have u2:=w5 N2 (by omega) (by omega)
   have u3:=w5 N3 (by omega) (by omega)
   simp only [go_sem,sevalprocAttr,EN1,EN2,EN3,EN4,FqN2,Fq2N,FqN3,Fq3N,FqN4,Fq4N,FqN5,Fq5N,FqN12,Fq2N1,FqN13,Fq3N1,FqN14,Fq4N1,FqN15,Fq5N1,FqN22,Fq2N2,FqN23,Fq3N2,FqN24,Fq4N2,FqN25,Fq5N2,FqN32,Fq2N3,FqN33,Fq3N3,FqN34,Fq4N3,FqN35,Fq5N3,FqN42,Fq2N4,FqN43,Fq3N4,FqN44,Fq4N4,FqN45,Fq5N4,FqN1N,FqNN1,FlN1N,FqN2N,FqNN2,FlN2N,FqN2N1,FqN1N2,FlN2N1,FqN3N,FqNN3,FlN3N,FqN3N1,FqN1N3,FlN3N1,FqN3N2,FqN2N3,FlN3N2,FqN4N,FqNN4,FlN4N,FqN4N1,FqN1N4,FlN4N1,FqN4N2,FqN2N4,FlN4N2,FqN4N3,FqN3N4,FlN4N3] at u0 u1 u2 u3
   have g1: ∀i,i<N->i≠2->hget H1 i=hget H i:=fun i hi h2=>by
    have:=w5 i (by omega) h2
    rw [this]
    repeat rw [if_neg (by omega)]
   generalize hM:hnew H1=M at*
   obtain ⟨M1,EM1⟩: ∃x,M+1=x:=⟨_,rfl⟩
   have FqM2:(M=2)=False:=eq_false (by omega)
   have Fq2M:(2=M)=False:=eq_false (by omega)
   have FqM3:(M=3)=False:=eq_false (by omega)
   have Fq3M:(3=M)=False:=eq_false (by omega)
   have FqM4:(M=4)=False:=eq_false (by omega)
   have Fq4M:(4=M)=False:=eq_false (by omega)
   have FqM5:(M=5)=False:=eq_false (by omega)
   have Fq5M:(5=M)=False:=eq_false (by omega)
   have FqM12:(M1=2)=False:=eq_false (by omega)
   have Fq2M1:(2=M1)=False:=eq_false (by omega)
   have FqM13:(M1=3)=False:=eq_false (by omega)
   have Fq3M1:(3=M1)=False:=eq_false (by omega)
   have FqM14:(M1=4)=False:=eq_false (by omega)
   have Fq4M1:(4=M1)=False:=eq_false (by omega)
   have FqM15:(M1=5)=False:=eq_false (by omega)
   have Fq5M1:(5=M1)=False:=eq_false (by omega)
   have FqMN:(M=N)=False:=eq_false (by omega)
   have FqNM:(N=M)=False:=eq_false (by omega)
   have FqMN1:(M=N1)=False:=eq_false (by omega)
   have FqN1M:(N1=M)=False:=eq_false (by omega)
   have FqMN2:(M=N2)=False:=eq_false (by omega)
   have FqN2M:(N2=M)=False:=eq_false (by omega)
   have FqMN3:(M=N3)=False:=eq_false (by omega)
   have FqN3M:(N3=M)=False:=eq_false (by omega)
   have FqM1M:(M1=M)=False:=eq_false (by omega)
   have FqMM1:(M=M1)=False:=eq_false (by omega)
   have FlM1M:(M1<=M)=False:=eq_false (by omega)
   have FqM1N:(M1=N)=False:=eq_false (by omega)
   have FqNM1:(N=M1)=False:=eq_false (by omega)
   have FqM1N1:(M1=N1)=False:=eq_false (by omega)
   have FqN1M1:(N1=M1)=False:=eq_false (by omega)
   have FqM1N2:(M1=N2)=False:=eq_false (by omega)
   have FqN2M1:(N2=M1)=False:=eq_false (by omega)
   have FqM1N3:(M1=N3)=False:=eq_false (by omega)
   have FqN3M1:(N3=M1)=False:=eq_false (by omega)
   repeat' (first|omega|(try apply yaa);simp only [go_sem,sevalprocAttr,hM,i2,i3,i4,i5,u0,u1,u2,u3,hsv,EN1,EN2,EN3,EN4,FqN2,Fq2N,FqN3,Fq3N,FqN4,Fq4N,FqN5,Fq5N,FqN12,Fq2N1,FqN13,Fq3N1,FqN14,Fq4N1,FqN15,Fq5N1,FqN22,Fq2N2,FqN23,Fq3N2,FqN24,Fq4N2,FqN25,Fq5N2,FqN32,Fq2N3,FqN33,Fq3N3,FqN34,Fq4N3,FqN35,Fq5N3,FqN42,Fq2N4,FqN43,Fq3N4,FqN44,Fq4N4,FqN45,Fq5N4,FqN1N,FqNN1,FlN1N,FqN2N,FqNN2,FlN2N,FqN2N1,FqN1N2,FlN2N1,FqN3N,FqNN3,FlN3N,FqN3N1,FqN1N3,FlN3N1,FqN3N2,FqN2N3,FlN3N2,FqN4N,FqNN4,FlN4N,FqN4N1,FqN1N4,FlN4N1,FqN4N2,FqN2N4,FlN4N2,FqN4N3,FqN3N4,FlN4N3,EM1,FqM2,Fq2M,FqM3,Fq3M,FqM4,Fq4M,FqM5,Fq5M,FqM12,Fq2M1,FqM13,Fq3M1,FqM14,Fq4M1,FqM15,Fq5M1,FqMN,FqNM,FqMN1,FqN1M,FqMN2,FqN2M,FqMN3,FqN3M,FqM1M,FqMM1,FlM1M,FqM1N,FqNM1,FqM1N1,FqN1M1,FqM1N2,FqN2M1,FqM1N3,FqN3M1]|(refine ⟨yae.fn (r:=?_) rfl ?_ ?_⟩;rotate_left;assumption)|(refine ⟨yai.fn (r:=?_) rfl ?_ ?_⟩;rotate_left;assumption)|apply yab<;>(intro h_;(try simp only [h_]);revert h_)|apply And.intro|with_reducible intro h_|trivial|simp only [go_sem,la2];omega)
   refine ⟨yae.inline (ih1 hM1 q1 hq1 l1 w1 _ ?_ _ _ fun H2 l2 x1 x2 x3 x5=>?_)⟩
   ·constructor<;>(simp only [go_sem,sevalprocAttr,hM,i2,i3,i4,i5,EM1,FqM2,Fq2M,FqM3,Fq3M,FqM4,Fq4M,FqM5,Fq5M,FqM12,Fq2M1,FqM13,Fq3M1,FqM14,Fq4M1,FqM15,Fq5M1,FqMN,FqNM,FqMN1,FqN1M,FqMN2,FqN2M,FqMN3,FqN3M,FqM1M,FqMM1,FlM1M,FqM1N,FqNM1,FqM1N1,FqN1M1,FqM1N2,FqN2M1,FqM1N3,FqN3M1])
    all_goals omega
   clear ih1
   obtain ⟨j5,j4,j3,j2,jN⟩:=x2
   simp only [go_sem,sevalprocAttr,hM,EM1,FqM2,Fq2M,FqM3,Fq3M,FqM4,Fq4M,FqM5,Fq5M,FqM12,Fq2M1,FqM13,Fq3M1,FqM14,Fq4M1,FqM15,Fq5M1,FqMN,FqNM,FqMN1,FqN1M,FqMN2,FqN2M,FqMN3,FqN3M,FqM1M,FqMM1,FlM1M,FqM1N,FqNM1,FqM1N1,FqN1M1,FqM1N2,FqN2M1,FqM1N3,FqN3M1] at x3 x5
   have v0:=x5 N (by omega) (by omega)
   have v1:=x5 N1 (by omega) (by omega)
   have v2:=x5 N2 (by omega) (by omega)
   have v3:=x5 N3 (by omega) (by omega)
   have v4:=x5 M (by omega) (by omega)
   simp only [go_sem,sevalprocAttr,EM1,FqM2,Fq2M,FqM3,Fq3M,FqM4,Fq4M,FqM5,Fq5M,FqM12,Fq2M1,FqM13,Fq3M1,FqM14,Fq4M1,FqM15,Fq5M1,FqMN,FqNM,FqMN1,FqN1M,FqMN2,FqN2M,FqMN3,FqN3M,FqM1M,FqMM1,FlM1M,FqM1N,FqNM1,FqM1N1,FqN1M1,FqM1N2,FqN2M1,FqM1N3,FqN3M1,u0,u1,u2,u3] at v0 v1 v2 v3 v4
   have g2: ∀i,i<N->i≠2->hget H2 i=hget H i:=fun i hi h2=>by
    have:=x5 i (by omega) h2
    rw [this]
    repeat rw [if_neg (by omega)]
    exact g1 i hi h2
   have y4:hset H2 4 okO=H2:=yci j4
   have y1: ∀o,hget (hset H2 N1 o) N1=some o:=fun o=>ya2 v1
   have hEE:=fun X o=>yqo (X:=X) ⟨j5,j4,j3,j2,jN⟩ (N:=N) (by omega) (by omega) g2 N1 (by omega) o
   generalize hQ:hnew H2=Q at*
   obtain ⟨Q1,EQ1⟩: ∃x,Q+1=x:=⟨_,rfl⟩
   have FqQ2:(Q=2)=False:=eq_false (by omega)
   have Fq2Q:(2=Q)=False:=eq_false (by omega)
   have FqQ3:(Q=3)=False:=eq_false (by omega)
   have Fq3Q:(3=Q)=False:=eq_false (by omega)
   have FqQ4:(Q=4)=False:=eq_false (by omega)
   have Fq4Q:(4=Q)=False:=eq_false (by omega)
   have FqQ5:(Q=5)=False:=eq_false (by omega)
   have Fq5Q:(5=Q)=False:=eq_false (by omega)
   have FqQ12:(Q1=2)=False:=eq_false (by omega)
   have Fq2Q1:(2=Q1)=False:=eq_false (by omega)
   have FqQ13:(Q1=3)=False:=eq_false (by omega)
   have Fq3Q1:(3=Q1)=False:=eq_false (by omega)
   have FqQ14:(Q1=4)=False:=eq_false (by omega)
   have Fq4Q1:(4=Q1)=False:=eq_false (by omega)
   have FqQ15:(Q1=5)=False:=eq_false (by omega)
   have Fq5Q1:(5=Q1)=False:=eq_false (by omega)
   have FqQN:(Q=N)=False:=eq_false (by omega)
   have FqNQ:(N=Q)=False:=eq_false (by omega)
   have FqQN1:(Q=N1)=False:=eq_false (by omega)
   have FqN1Q:(N1=Q)=False:=eq_false (by omega)
   have FqQN2:(Q=N2)=False:=eq_false (by omega)
   have FqN2Q:(N2=Q)=False:=eq_false (by omega)
   have FqQN3:(Q=N3)=False:=eq_false (by omega)
   have FqN3Q:(N3=Q)=False:=eq_false (by omega)
   have FqQM:(Q=M)=False:=eq_false (by omega)
   have FqMQ:(M=Q)=False:=eq_false (by omega)
   have FqQ1Q:(Q1=Q)=False:=eq_false (by omega)
   have FqQQ1:(Q=Q1)=False:=eq_false (by omega)
   have FlQ1Q:(Q1<=Q)=False:=eq_false (by omega)
   have FqQ1N:(Q1=N)=False:=eq_false (by omega)
   have FqNQ1:(N=Q1)=False:=eq_false (by omega)
   have FqQ1N1:(Q1=N1)=False:=eq_false (by omega)
   have FqN1Q1:(N1=Q1)=False:=eq_false (by omega)
   have FqQ1N2:(Q1=N2)=False:=eq_false (by omega)
   have FqN2Q1:(N2=Q1)=False:=eq_false (by omega)
   have FqQ1N3:(Q1=N3)=False:=eq_false (by omega)
   have FqN3Q1:(N3=Q1)=False:=eq_false (by omega)
   have FqQ1M:(Q1=M)=False:=eq_false (by omega)
   have FqMQ1:(M=Q1)=False:=eq_false (by omega)
   repeat' (first|omega|(try apply yaa);simp only [go_sem,sevalprocAttr,hQ,j2,j3,j4,j5,v0,v1,v2,v3,v4,y1,y4,hsv,EN1,EN2,EN3,EN4,FqN2,Fq2N,FqN3,Fq3N,FqN4,Fq4N,FqN5,Fq5N,FqN12,Fq2N1,FqN13,Fq3N1,FqN14,Fq4N1,FqN15,Fq5N1,FqN22,Fq2N2,FqN23,Fq3N2,FqN24,Fq4N2,FqN25,Fq5N2,FqN32,Fq2N3,FqN33,Fq3N3,FqN34,Fq4N3,FqN35,Fq5N3,FqN42,Fq2N4,FqN43,Fq3N4,FqN44,Fq4N4,FqN45,Fq5N4,FqN1N,FqNN1,FlN1N,FqN2N,FqNN2,FlN2N,FqN2N1,FqN1N2,FlN2N1,FqN3N,FqNN3,FlN3N,FqN3N1,FqN1N3,FlN3N1,FqN3N2,FqN2N3,FlN3N2,FqN4N,FqNN4,FlN4N,FqN4N1,FqN1N4,FlN4N1,FqN4N2,FqN2N4,FlN4N2,FqN4N3,FqN3N4,FlN4N3,EM1,FqM2,Fq2M,FqM3,Fq3M,FqM4,Fq4M,FqM5,Fq5M,FqM12,Fq2M1,FqM13,Fq3M1,FqM14,Fq4M1,FqM15,Fq5M1,FqMN,FqNM,FqMN1,FqN1M,FqMN2,FqN2M,FqMN3,FqN3M,FqM1M,FqMM1,FlM1M,FqM1N,FqNM1,FqM1N1,FqN1M1,FqM1N2,FqN2M1,FqM1N3,FqN3M1,EQ1,FqQ2,Fq2Q,FqQ3,Fq3Q,FqQ4,Fq4Q,FqQ5,Fq5Q,FqQ12,Fq2Q1,FqQ13,Fq3Q1,FqQ14,Fq4Q1,FqQ15,Fq5Q1,FqQN,FqNQ,FqQN1,FqN1Q,FqQN2,FqN2Q,FqQN3,FqN3Q,FqQM,FqMQ,FqQ1Q,FqQQ1,FlQ1Q,FqQ1N,FqNQ1,FqQ1N1,FqN1Q1,FqQ1N2,FqN2Q1,FqQ1N3,FqN3Q1,FqQ1M,FqMQ1]|(refine ⟨yae.fn (r:=?_) rfl ?_ ?_⟩;rotate_left;assumption)|(refine ⟨yai.fn (r:=?_) rfl ?_ ?_⟩;rotate_left;assumption)|apply yab<;>(intro h_;(try simp only [h_]);revert h_)|apply And.intro|with_reducible intro h_|trivial|simp only [go_sem,la2];omega)
   all_goals
    obtain ⟨z1,z2,z3⟩:=hEE [(Q,_)] _ (by simp only [List.forall_mem_cons];exact ⟨by omega,fun _ h=>by cases h⟩)
    exact hK _ _ x1 z1 z2 z3
  ·have hS2:=yhb q2 (-1) 1 (hq2.lenB S2 (by omega)) (by decide) (by decide) (fun t ht=>by have:=hq2.memB S2 ht;omega)
   have hS1:=yhb q1 (-2) 0 (hq1.lenB S1 (by omega)) (by decide) (by decide) (fun t ht=>by have:=hq1.memB S1 ht;omega)
   have hA:=ysy (r:=p) (N:=150) (hq1.shift (bvE (-2) 0)) (hq2.shift (bvE (-1) 1)) ((S1.shift (a:=(-2)) (z:=0) (M:=2) (by decide) (by decide) (by omega) (by decide)).mono (by omega)) ((S2.shift (a:=(-1)) (z:=1) (M:=2) (by decide) (by decide) (by omega) (by decide)).mono (by omega)) (by decide) (fun e=>B1 _) (fun e=>B2 _) (hp.congr fun e=>by rw [st e,hsv];rfl) (fun e=>by
    have:=B0 e
    rw [st e,hsv] at this
    exact this)
   rw [show (q1.map fun t=>(t.1+bvE (-2) 0,t.2))=bvSh (bvE (-2) 0) q1 from rfl,show (q2.map fun t=>(t.1+bvE (-1) 1,t.2))=bvSh (bvE (-1) 1) q2 from rfl] at hA
   refine ych.intro [.cell 5 29] Tryz.func28 rfl rfl (by decide) (by simp [Tryz.ntmps28]) ?_;rw [Tryz.ntmps28]
   repeat' (first|omega|(try apply yaa);simp only [go_sem,sevalprocAttr,hN,k2,k3,k4,k5,s24,w4,w24,hsv,EN1,EN2,EN3,EN4,FqN2,Fq2N,FqN3,Fq3N,FqN4,Fq4N,FqN5,Fq5N,FqN12,Fq2N1,FqN13,Fq3N1,FqN14,Fq4N1,FqN15,Fq5N1,FqN22,Fq2N2,FqN23,Fq3N2,FqN24,Fq4N2,FqN25,Fq5N2,FqN32,Fq2N3,FqN33,Fq3N3,FqN34,Fq4N3,FqN35,Fq5N3,FqN42,Fq2N4,FqN43,Fq3N4,FqN44,Fq4N4,FqN45,Fq5N4,FqN1N,FqNN1,FlN1N,FqN2N,FqNN2,FlN2N,FqN2N1,FqN1N2,FlN2N1,FqN3N,FqNN3,FlN3N,FqN3N1,FqN1N3,FlN3N1,FqN3N2,FqN2N3,FlN3N2,FqN4N,FqNN4,FlN4N,FqN4N1,FqN1N4,FlN4N1,FqN4N2,FqN2N4,FlN4N2,FqN4N3,FqN3N4,FlN4N3]|(refine ⟨yae.fn (r:=?_) rfl ?_ ?_⟩;rotate_left;assumption)|(refine ⟨yai.fn (r:=?_) rfl ?_ ?_⟩;rotate_left;assumption)|apply yab<;>(intro h_;(try simp only [h_]);revert h_)|apply And.intro|with_reducible intro h_|trivial|simp only [go_sem,la2];omega)
   refine ⟨yae.inline (ih2 hM2 q2 hq2 l hl _ ?_ _ _ fun H1 l1 w1 w2 w3 w5=>?_)⟩
   ·constructor<;>(simp only [go_sem,sevalprocAttr,hN,k2,k3,k4,k5,EN1,EN2,EN3,EN4,FqN2,Fq2N,FqN3,Fq3N,FqN4,Fq4N,FqN5,Fq5N,FqN12,Fq2N1,FqN13,Fq3N1,FqN14,Fq4N1,FqN15,Fq5N1,FqN22,Fq2N2,FqN23,Fq3N2,FqN24,Fq4N2,FqN25,Fq5N2,FqN32,Fq2N3,FqN33,Fq3N3,FqN34,Fq4N3,FqN35,Fq5N3,FqN42,Fq2N4,FqN43,Fq3N4,FqN44,Fq4N4,FqN45,Fq5N4,FqN1N,FqNN1,FlN1N,FqN2N,FqNN2,FlN2N,FqN2N1,FqN1N2,FlN2N1,FqN3N,FqNN3,FlN3N,FqN3N1,FqN1N3,FlN3N1,FqN3N2,FqN2N3,FlN3N2,FqN4N,FqNN4,FlN4N,FqN4N1,FqN1N4,FlN4N1,FqN4N2,FqN2N4,FlN4N2,FqN4N3,FqN3N4,FlN4N3])
    all_goals omega
   clear ih2
   obtain ⟨i5,i4,i3,i2,iN⟩:=w2
   simp only [go_sem,sevalprocAttr,hN,EN1,EN2,EN3,EN4,FqN2,Fq2N,FqN3,Fq3N,FqN4,Fq4N,FqN5,Fq5N,FqN12,Fq2N1,FqN13,Fq3N1,FqN14,Fq4N1,FqN15,Fq5N1,FqN22,Fq2N2,FqN23,Fq3N2,FqN24,Fq4N2,FqN25,Fq5N2,FqN32,Fq2N3,FqN33,Fq3N3,FqN34,Fq4N3,FqN35,Fq5N3,FqN42,Fq2N4,FqN43,Fq3N4,FqN44,Fq4N4,FqN45,Fq5N4,FqN1N,FqNN1,FlN1N,FqN2N,FqNN2,FlN2N,FqN2N1,FqN1N2,FlN2N1,FqN3N,FqNN3,FlN3N,FqN3N1,FqN1N3,FlN3N1,FqN3N2,FqN2N3,FlN3N2,FqN4N,FqNN4,FlN4N,FqN4N1,FqN1N4,FlN4N1,FqN4N2,FqN2N4,FlN4N2,FqN4N3,FqN3N4,FlN4N3] at w3 w5
   have u0:=w5 N (by omega) (by omega)
   have u1:=w5 N1 (by omega) (by omega)
   have u2:=w5 N2 (by omega) (by omega)
   have u3:=w5 N3 (by omega) (by omega)
   simp only [go_sem,sevalprocAttr,EN1,EN2,EN3,EN4,FqN2,Fq2N,FqN3,Fq3N,FqN4,Fq4N,FqN5,Fq5N,FqN12,Fq2N1,FqN13,Fq3N1,FqN14,Fq4N1,FqN15,Fq5N1,FqN22,Fq2N2,FqN23,Fq3N2,FqN24,Fq4N2,FqN25,Fq5N2,FqN32,Fq2N3,FqN33,Fq3N3,FqN34,Fq4N3,FqN35,Fq5N3,FqN42,Fq2N4,FqN43,Fq3N4,FqN44,Fq4N4,FqN45,Fq5N4,FqN1N,FqNN1,FlN1N,FqN2N,FqNN2,FlN2N,FqN2N1,FqN1N2,FlN2N1,FqN3N,FqNN3,FlN3N,FqN3N1,FqN1N3,FlN3N1,FqN3N2,FqN2N3,FlN3N2,FqN4N,FqNN4,FlN4N,FqN4N1,FqN1N4,FlN4N1,FqN4N2,FqN2N4,FlN4N2,FqN4N3,FqN3N4,FlN4N3] at u0 u1 u2 u3
   have g1: ∀i,i<N->i≠2->hget H1 i=hget H i:=fun i hi h2=>by
    have:=w5 i (by omega) h2
    rw [this]
    repeat rw [if_neg (by omega)]
   generalize hM:hnew H1=M at*
   obtain ⟨M1,EM1⟩: ∃x,M+1=x:=⟨_,rfl⟩
   have FqM2:(M=2)=False:=eq_false (by omega)
   have Fq2M:(2=M)=False:=eq_false (by omega)
   have FqM3:(M=3)=False:=eq_false (by omega)
   have Fq3M:(3=M)=False:=eq_false (by omega)
   have FqM4:(M=4)=False:=eq_false (by omega)
   have Fq4M:(4=M)=False:=eq_false (by omega)
   have FqM5:(M=5)=False:=eq_false (by omega)
   have Fq5M:(5=M)=False:=eq_false (by omega)
   have FqM12:(M1=2)=False:=eq_false (by omega)
   have Fq2M1:(2=M1)=False:=eq_false (by omega)
   have FqM13:(M1=3)=False:=eq_false (by omega)
   have Fq3M1:(3=M1)=False:=eq_false (by omega)
   have FqM14:(M1=4)=False:=eq_false (by omega)
   have Fq4M1:(4=M1)=False:=eq_false (by omega)
   have FqM15:(M1=5)=False:=eq_false (by omega)
   have Fq5M1:(5=M1)=False:=eq_false (by omega)
   have FqMN:(M=N)=False:=eq_false (by omega)
   have FqNM:(N=M)=False:=eq_false (by omega)
   have FqMN1:(M=N1)=False:=eq_false (by omega)
   have FqN1M:(N1=M)=False:=eq_false (by omega)
   have FqMN2:(M=N2)=False:=eq_false (by omega)
   have FqN2M:(N2=M)=False:=eq_false (by omega)
   have FqMN3:(M=N3)=False:=eq_false (by omega)
   have FqN3M:(N3=M)=False:=eq_false (by omega)
   have FqM1M:(M1=M)=False:=eq_false (by omega)
   have FqMM1:(M=M1)=False:=eq_false (by omega)
   have FlM1M:(M1<=M)=False:=eq_false (by omega)
   have FqM1N:(M1=N)=False:=eq_false (by omega)
   have FqNM1:(N=M1)=False:=eq_false (by omega)
   have FqM1N1:(M1=N1)=False:=eq_false (by omega)
   have FqN1M1:(N1=M1)=False:=eq_false (by omega)
   have FqM1N2:(M1=N2)=False:=eq_false (by omega)
   have FqN2M1:(N2=M1)=False:=eq_false (by omega)
   have FqM1N3:(M1=N3)=False:=eq_false (by omega)
   have FqN3M1:(N3=M1)=False:=eq_false (by omega)
   repeat' (first|omega|(try apply yaa);simp only [go_sem,sevalprocAttr,hM,i2,i3,i4,i5,u0,u1,u2,u3,hsv,EN1,EN2,EN3,EN4,FqN2,Fq2N,FqN3,Fq3N,FqN4,Fq4N,FqN5,Fq5N,FqN12,Fq2N1,FqN13,Fq3N1,FqN14,Fq4N1,FqN15,Fq5N1,FqN22,Fq2N2,FqN23,Fq3N2,FqN24,Fq4N2,FqN25,Fq5N2,FqN32,Fq2N3,FqN33,Fq3N3,FqN34,Fq4N3,FqN35,Fq5N3,FqN42,Fq2N4,FqN43,Fq3N4,FqN44,Fq4N4,FqN45,Fq5N4,FqN1N,FqNN1,FlN1N,FqN2N,FqNN2,FlN2N,FqN2N1,FqN1N2,FlN2N1,FqN3N,FqNN3,FlN3N,FqN3N1,FqN1N3,FlN3N1,FqN3N2,FqN2N3,FlN3N2,FqN4N,FqNN4,FlN4N,FqN4N1,FqN1N4,FlN4N1,FqN4N2,FqN2N4,FlN4N2,FqN4N3,FqN3N4,FlN4N3,EM1,FqM2,Fq2M,FqM3,Fq3M,FqM4,Fq4M,FqM5,Fq5M,FqM12,Fq2M1,FqM13,Fq3M1,FqM14,Fq4M1,FqM15,Fq5M1,FqMN,FqNM,FqMN1,FqN1M,FqMN2,FqN2M,FqMN3,FqN3M,FqM1M,FqMM1,FlM1M,FqM1N,FqNM1,FqM1N1,FqN1M1,FqM1N2,FqN2M1,FqM1N3,FqN3M1]|(refine ⟨yae.fn (r:=?_) rfl ?_ ?_⟩;rotate_left;assumption)|(refine ⟨yai.fn (r:=?_) rfl ?_ ?_⟩;rotate_left;assumption)|apply yab<;>(intro h_;(try simp only [h_]);revert h_)|apply And.intro|with_reducible intro h_|trivial|simp only [go_sem,la2];omega)
   refine ⟨yae.inline (ih1 hM1 q1 hq1 l1 w1 _ ?_ _ _ fun H2 l2 x1 x2 x3 x5=>?_)⟩
   ·constructor<;>(simp only [go_sem,sevalprocAttr,hM,i2,i3,i4,i5,EM1,FqM2,Fq2M,FqM3,Fq3M,FqM4,Fq4M,FqM5,Fq5M,FqM12,Fq2M1,FqM13,Fq3M1,FqM14,Fq4M1,FqM15,Fq5M1,FqMN,FqNM,FqMN1,FqN1M,FqMN2,FqN2M,FqMN3,FqN3M,FqM1M,FqMM1,FlM1M,FqM1N,FqNM1,FqM1N1,FqN1M1,FqM1N2,FqN2M1,FqM1N3,FqN3M1])
    all_goals omega
   clear ih1
   obtain ⟨j5,j4,j3,j2,jN⟩:=x2
   simp only [go_sem,sevalprocAttr,hM,EM1,FqM2,Fq2M,FqM3,Fq3M,FqM4,Fq4M,FqM5,Fq5M,FqM12,Fq2M1,FqM13,Fq3M1,FqM14,Fq4M1,FqM15,Fq5M1,FqMN,FqNM,FqMN1,FqN1M,FqMN2,FqN2M,FqMN3,FqN3M,FqM1M,FqMM1,FlM1M,FqM1N,FqNM1,FqM1N1,FqN1M1,FqM1N2,FqN2M1,FqM1N3,FqN3M1] at x3 x5
   have v0:=x5 N (by omega) (by omega)
   have v1:=x5 N1 (by omega) (by omega)
   have v2:=x5 N2 (by omega) (by omega)
   have v3:=x5 N3 (by omega) (by omega)
   have v4:=x5 M (by omega) (by omega)
   simp only [go_sem,sevalprocAttr,EM1,FqM2,Fq2M,FqM3,Fq3M,FqM4,Fq4M,FqM5,Fq5M,FqM12,Fq2M1,FqM13,Fq3M1,FqM14,Fq4M1,FqM15,Fq5M1,FqMN,FqNM,FqMN1,FqN1M,FqMN2,FqN2M,FqMN3,FqN3M,FqM1M,FqMM1,FlM1M,FqM1N,FqNM1,FqM1N1,FqN1M1,FqM1N2,FqN2M1,FqM1N3,FqN3M1,u0,u1,u2,u3] at v0 v1 v2 v3 v4
   have g2: ∀i,i<N->i≠2->hget H2 i=hget H i:=fun i hi h2=>by
    have:=x5 i (by omega) h2
    rw [this]
    repeat rw [if_neg (by omega)]
    exact g1 i hi h2
   have y4:hset H2 4 okO=H2:=yci j4
   have y1: ∀o,hget (hset H2 N1 o) N1=some o:=fun o=>ya2 v1
   have hEE:=fun X o=>yqo (X:=X) ⟨j5,j4,j3,j2,jN⟩ (N:=N) (by omega) (by omega) g2 N1 (by omega) o
   generalize hQ:hnew H2=Q at*
   obtain ⟨Q1,EQ1⟩: ∃x,Q+1=x:=⟨_,rfl⟩
   have FqQ2:(Q=2)=False:=eq_false (by omega)
   have Fq2Q:(2=Q)=False:=eq_false (by omega)
   have FqQ3:(Q=3)=False:=eq_false (by omega)
   have Fq3Q:(3=Q)=False:=eq_false (by omega)
   have FqQ4:(Q=4)=False:=eq_false (by omega)
   have Fq4Q:(4=Q)=False:=eq_false (by omega)
   have FqQ5:(Q=5)=False:=eq_false (by omega)
   have Fq5Q:(5=Q)=False:=eq_false (by omega)
   have FqQ12:(Q1=2)=False:=eq_false (by omega)
   have Fq2Q1:(2=Q1)=False:=eq_false (by omega)
   have FqQ13:(Q1=3)=False:=eq_false (by omega)
   have Fq3Q1:(3=Q1)=False:=eq_false (by omega)
   have FqQ14:(Q1=4)=False:=eq_false (by omega)
   have Fq4Q1:(4=Q1)=False:=eq_false (by omega)
   have FqQ15:(Q1=5)=False:=eq_false (by omega)
   have Fq5Q1:(5=Q1)=False:=eq_false (by omega)
   have FqQN:(Q=N)=False:=eq_false (by omega)
   have FqNQ:(N=Q)=False:=eq_false (by omega)
   have FqQN1:(Q=N1)=False:=eq_false (by omega)
   have FqN1Q:(N1=Q)=False:=eq_false (by omega)
   have FqQN2:(Q=N2)=False:=eq_false (by omega)
   have FqN2Q:(N2=Q)=False:=eq_false (by omega)
   have FqQN3:(Q=N3)=False:=eq_false (by omega)
   have FqN3Q:(N3=Q)=False:=eq_false (by omega)
   have FqQM:(Q=M)=False:=eq_false (by omega)
   have FqMQ:(M=Q)=False:=eq_false (by omega)
   have FqQ1Q:(Q1=Q)=False:=eq_false (by omega)
   have FqQQ1:(Q=Q1)=False:=eq_false (by omega)
   have FlQ1Q:(Q1<=Q)=False:=eq_false (by omega)
   have FqQ1N:(Q1=N)=False:=eq_false (by omega)
   have FqNQ1:(N=Q1)=False:=eq_false (by omega)
   have FqQ1N1:(Q1=N1)=False:=eq_false (by omega)
   have FqN1Q1:(N1=Q1)=False:=eq_false (by omega)
   have FqQ1N2:(Q1=N2)=False:=eq_false (by omega)
   have FqN2Q1:(N2=Q1)=False:=eq_false (by omega)
   have FqQ1N3:(Q1=N3)=False:=eq_false (by omega)
   have FqN3Q1:(N3=Q1)=False:=eq_false (by omega)
   have FqQ1M:(Q1=M)=False:=eq_false (by omega)
   have FqMQ1:(M=Q1)=False:=eq_false (by omega)
   repeat' (first|omega|(try apply yaa);simp only [go_sem,sevalprocAttr,hQ,j2,j3,j4,j5,v0,v1,v2,v3,v4,y1,y4,hsv,EN1,EN2,EN3,EN4,FqN2,Fq2N,FqN3,Fq3N,FqN4,Fq4N,FqN5,Fq5N,FqN12,Fq2N1,FqN13,Fq3N1,FqN14,Fq4N1,FqN15,Fq5N1,FqN22,Fq2N2,FqN23,Fq3N2,FqN24,Fq4N2,FqN25,Fq5N2,FqN32,Fq2N3,FqN33,Fq3N3,FqN34,Fq4N3,FqN35,Fq5N3,FqN42,Fq2N4,FqN43,Fq3N4,FqN44,Fq4N4,FqN45,Fq5N4,FqN1N,FqNN1,FlN1N,FqN2N,FqNN2,FlN2N,FqN2N1,FqN1N2,FlN2N1,FqN3N,FqNN3,FlN3N,FqN3N1,FqN1N3,FlN3N1,FqN3N2,FqN2N3,FlN3N2,FqN4N,FqNN4,FlN4N,FqN4N1,FqN1N4,FlN4N1,FqN4N2,FqN2N4,FlN4N2,FqN4N3,FqN3N4,FlN4N3,EM1,FqM2,Fq2M,FqM3,Fq3M,FqM4,Fq4M,FqM5,Fq5M,FqM12,Fq2M1,FqM13,Fq3M1,FqM14,Fq4M1,FqM15,Fq5M1,FqMN,FqNM,FqMN1,FqN1M,FqMN2,FqN2M,FqMN3,FqN3M,FqM1M,FqMM1,FlM1M,FqM1N,FqNM1,FqM1N1,FqN1M1,FqM1N2,FqN2M1,FqM1N3,FqN3M1,EQ1,FqQ2,Fq2Q,FqQ3,Fq3Q,FqQ4,Fq4Q,FqQ5,Fq5Q,FqQ12,Fq2Q1,FqQ13,Fq3Q1,FqQ14,Fq4Q1,FqQ15,Fq5Q1,FqQN,FqNQ,FqQN1,FqN1Q,FqQN2,FqN2Q,FqQN3,FqN3Q,FqQM,FqMQ,FqQ1Q,FqQQ1,FlQ1Q,FqQ1N,FqNQ1,FqQ1N1,FqN1Q1,FqQ1N2,FqN2Q1,FqQ1N3,FqN3Q1,FqQ1M,FqMQ1]|(refine ⟨yae.fn (r:=?_) rfl ?_ ?_⟩;rotate_left;assumption)|(refine ⟨yai.fn (r:=?_) rfl ?_ ?_⟩;rotate_left;assumption)|apply yab<;>(intro h_;(try simp only [h_]);revert h_)|apply And.intro|with_reducible intro h_|trivial|simp only [go_sem,la2];omega)
   all_goals
    obtain ⟨z1,z2,z3⟩:=hEE [(Q,_)] _ (by simp only [List.forall_mem_cons];exact ⟨by omega,fun _ h=>by cases h⟩)
    exact hK _ _ x1 z1 z2 z3
end Go.Proofs.YtbblgobamoabkaaGreatDoor
