/- Layer 20: the resolution. -/
import Derived.Test.YtjpbeacamoijhaaGreatDoorZw
import Derived.Test.YtjpbeacamoijhaaGreatDoorZva
namespace Go.Proofs.YtjpbeacamoijhaaGreatDoor
open Go Go.RowKit
set_option maxRecDepth 100000
set_option maxHeartbeats 16000000
set_option linter.unusedVariables false
set_option linter.unusedSimpArgs false
def rR (l:List (Int×AV)):Prop:= ∀(n:Int) (x:AV),qH l n=some x-> ∃(k:Nat) (q:List (Int×Int)),n=k/\dL q (Hs.XE k)/\x=jo false q
theorem rR.nil:rR []:=fun n x h=>by simp [qH] at h
theorem y1z (l:List (Int×AV)) (n:Int) (v:AV) (n':Int):qH (lput l n v) n'=if n=n' then some v else qH l n':=by
 induction l with
 |nil=>
  simp only [lput,qH,List.find?_cons,List.find?_nil];by_cases h:n=n'
  ·simp [h]
  ·rw [if_neg h,beq_eq_false_iff_ne.2 h]
 |cons q l ih=>
  simp only [lput];by_cases hq:q.1=n
  ·rw [if_pos hq];simp only [qH,List.find?_cons];by_cases h:n=n'
   ·simp [h]
   ·have h2: ¬q.1=n':=by rw [hq];exact h
    rw [if_neg h,beq_eq_false_iff_ne.2 h,beq_eq_false_iff_ne.2 h2]
  ·rw [if_neg hq];simp only [qH,List.find?_cons] at ih⊢;by_cases h:q.1=n'
   ·have: ¬n=n':=fun e=>hq (h.trans e.symm)
    simp [h,this]
   ·simp only [beq_eq_false_iff_ne.2 h];exact ih
theorem rR.put {l:List (Int×AV)} (h:rR l) {k:Nat} {q:List (Int×Int)} (hq:dL q (Hs.XE k)):rR (lput l k (jo false q)):=fun n x hx=>by
 rw [y1z] at hx;by_cases e:(k:Int)=n
 ·rw [if_pos e] at hx;cases hx;exact ⟨k,q,e.symm,hq,rfl⟩
 ·rw [if_neg e] at hx;exact h n x hx
abbrev rsO:AObj:= .cells 68 (.lst [.fn 40 [.ptr 4 0, .ptr 5 0, .ptr 3 0]])
abbrev y6:AObj:= .cells 4 (.lst [.bool true])
structure HB (H:Hp) (l:List (Int×AV)):Prop where
 h5:hget H 5=some rsO
 h4:hget H 4=some y6
 h3:hget H 3=some (.cells 67 (.lst [.mp 2]))
 h2:hget H 2=some (.imap 67 l)
 lt:5<hnew H
theorem LF: ∀(H:Hp) (i:Nat) (o:AObj),hnew (hset H i o)=hnew H
 |[],_,_=>rfl
 |(j,u)::H,i,o=>by
  simp only [hset];by_cases h:j=i
  ·rw [if_pos h,h];rfl
  ·rw [if_neg h];simp only [hnew,LF H i o]
theorem Me {i:Nat} {H:Hp}: ∀{X:Hp},(∀q∈X,q.1≠i)->hget (X++H) i=hget H i
 |[],_=>rfl
 |(j,u)::X,h=>by
  rw [List.cons_append];simp only [hget];rw [if_neg (h (j,u) (List.mem_cons_self ..))];exact Me fun q hq=>h q (List.mem_cons_of_mem _ hq)
theorem Md {H:Hp}: ∀X:Hp,hnew H<=hnew (X++H)
 |[]=>Nat.le_refl _
 |(j,u)::X=>by
  have:=Md (H:=H) X
  rw [List.cons_append];simp only [hnew];omega
theorem ZK {H X:Hp} {l:List (Int×AV)} (hH:HB H l) (l':List (Int×AV)) (hX: ∀q∈X,hnew H<=q.1):HB (X++hset H 2 (.imap 67 l')) l'/\hnew H<=hnew (X++hset H 2 (.imap 67 l'))/\ ∀i,i<hnew H->i≠2->hget (X++hset H 2 (.imap 67 l')) i=hget H i:=by
 obtain ⟨k5,k4,k3,k2,kN⟩:=hH;have hn:=Md (H:=hset H 2 (.imap 67 l')) X;rw [LF] at hn;have hg: ∀i,i<hnew H->hget (X++hset H 2 (.imap 67 l')) i=hget (hset H 2 (.imap 67 l')) i:=fun i hi=>Me fun q hq he=>by
  have:=hX q hq;omega
 refine ⟨⟨?_,?_,?_,?_,by omega⟩,hn,fun i hi h2=>by rw [hg i hi,jW (Ne.symm h2)]⟩
 ·rw [hg 5 kN,jW (by decide)];exact k5
 ·rw [hg 4 (by omega),jW (by decide)];exact k4
 ·rw [hg 3 (by omega),jW (by decide)];exact k3
 ·rw [hg 2 (by omega),sN k2]
theorem RT {H H2 X:Hp} {l:List (Int×AV)} {N:Nat} (hH:HB H2 l) (hN:N<=hnew H2) (h5:5<N) (hg: ∀i,i<N->i≠2->hget H2 i=hget H i) (n1:Nat) (h1:N<=n1) (o:AObj) (hX: ∀q∈X,N<=q.1):HB (X++hset H2 n1 o) l/\N<=hnew (X++hset H2 n1 o)/\ ∀i,i<N->i≠2->hget (X++hset H2 n1 o) i=hget H i:=by
 obtain ⟨k5,k4,k3,k2,kN⟩:=hH;have hn:=Md (H:=hset H2 n1 o) X;rw [LF] at hn;have hs: ∀i,i<N->hget (X++hset H2 n1 o) i=hget H2 i:=fun i hi=>by
  rw [Me fun q hq he=>by have:=hX q hq;omega,jW (by omega)]
 refine ⟨⟨?_,?_,?_,?_,by omega⟩,by omega,fun i hi h2=>by rw [hs i hi];exact hg i hi h2⟩
 ·rw [hs 5 h5];exact k5
 ·rw [hs 4 (by omega)];exact k4
 ·rw [hs 3 (by omega)];exact k3
 ·rw [hs 2 (by omega)];exact k2
theorem YM: ∀(s m:List Int) (L:Nat),rU s m L-> ∀(p:List (Int×Int)),dL p (Hs.ng s m L)-> ∀(l:List (Int×AV)),rR l-> ∀(H:Hp),HB H l-> ∀(fr:Fr) (K:AV->Fr->Hp->Prop),
  (∀(H':Hp) (l':List (Int×AV)),rR l'->HB H' l'->hnew H<=hnew H'->(∀i,i<hnew H->i≠2->hget H' i=hget H i)->K (jo false p) fr H')->
  qb Tryz.prog 40 [dgA s m L, .ptr 4 0, .ptr 5 0, .ptr 3 0] fr H K:=by
 refine QM (fun s m L h hb p hp l hl H hH fr K hK=>?_) fun s m L c L' h hb hc mC WM h1 e1 h2 e2 JG tW p hp l hl H hH fr K hK=>?_
 ·obtain ⟨k5,k4,k3,k2,kN⟩:=hH;have hR:=Tk s m L (fun _=>by have:=h.len;omega);have hC:=YU s m L;unfold resA at hR;rw [if_pos h.val] at hR hC;rw [hb] at hR;dsimp only at hR;have hs:(dt s m).length+L<=45:=by
   have h3:=EO s m;have h4:=(dr h.val).len
   have:=h.len
   have:=h.n14
   omega
  have o9:1<=(dt s m).length+L:=by
   rcases h.pos with h3|h3
   ·have:=Sp.mS (dr h.val) h3;omega
   ·omega
  obtain ⟨k,hk⟩: ∃k,L+(dt s m).length=k:=⟨_,rfl⟩;have NU:dL p (Hs.XE k):=hp.congr fun e=>by rw [Hs.rF h.val hb,hk]
  have ek:((dt s m).length:Int)+(L:Int)=k:=by omega
  rw [ek] at hC;have hB:=QL false p;have hCi:=XN k (by omega) NU;have Bs: ∀o,hget (hset H 2 o) 4=some y6:=fun o=>by rw [jW (by decide)];exact k4
  have w4:hset H 4 y6=H:=yS k4;have EY: ∀o,hset (hset H 2 o) 4 y6=hset H 2 o:=fun o=>yS (Bs o);have hE:=fun (X:Hp) (l':List (Int×AV))=>ZK (X:=X) ⟨k5,k4,k3,k2,kN⟩ l';generalize hN:hnew H=N at*;obtain ⟨N1,tD⟩: ∃x,N+1=x:=⟨_,rfl⟩;obtain ⟨N2,tC⟩: ∃x,N1+1=x:=⟨_,rfl⟩;obtain ⟨N3,tB⟩: ∃x,N2+1=x:=⟨_,rfl⟩;obtain ⟨N4,tA⟩: ∃x,N3+1=x:=⟨_,rfl⟩;obtain ⟨N5,EN5⟩: ∃x,N4+1=x:=⟨_,rfl⟩
  have kv:(N=2)=False:=eq_false (by omega);have kO:(2=N)=False:=eq_false (by omega);have ks:(N=3)=False:=eq_false (by omega);have kL:(3=N)=False:=eq_false (by omega);have kr:(N=4)=False:=eq_false (by omega);have kJ:(4=N)=False:=eq_false (by omega);have kq:(N=5)=False:=eq_false (by omega);have kD:(5=N)=False:=eq_false (by omega);have fO:(N1=2)=False:=eq_false (by omega)
  have gF:(2=N1)=False:=eq_false (by omega);have fN:(N1=3)=False:=eq_false (by omega);have gx:(3=N1)=False:=eq_false (by omega);have fM:(N1=4)=False:=eq_false (by omega);have gp:(4=N1)=False:=eq_false (by omega);have fL:(N1=5)=False:=eq_false (by omega);have gd:(5=N1)=False:=eq_false (by omega);have fI:(N2=2)=False:=eq_false (by omega)
  have gD:(2=N2)=False:=eq_false (by omega);have fH:(N2=3)=False:=eq_false (by omega);have gw:(3=N2)=False:=eq_false (by omega);have fG:(N2=4)=False:=eq_false (by omega);have gn:(4=N2)=False:=eq_false (by omega);have fF:(N2=5)=False:=eq_false (by omega);have gb:(5=N2)=False:=eq_false (by omega);have fB:(N3=2)=False:=eq_false (by omega)
  have gA:(2=N3)=False:=eq_false (by omega);have fA:(N3=3)=False:=eq_false (by omega);have gu:(3=N3)=False:=eq_false (by omega);have fy:(N3=4)=False:=eq_false (by omega);have gm:(4=N3)=False:=eq_false (by omega);have fx:(N3=5)=False:=eq_false (by omega);have ga:(5=N3)=False:=eq_false (by omega);have fp:(N4=2)=False:=eq_false (by omega)
  have gz:(2=N4)=False:=eq_false (by omega);have fm:(N4=3)=False:=eq_false (by omega);have gr:(3=N4)=False:=eq_false (by omega);have fk:(N4=4)=False:=eq_false (by omega);have gj:(4=N4)=False:=eq_false (by omega);have fj:(N4=5)=False:=eq_false (by omega);have fZ:(5=N4)=False:=eq_false (by omega);have Xg:(N5=2)=False:=eq_false (by omega)
  have Xl:(2=N5)=False:=eq_false (by omega);have Xe:(N5=3)=False:=eq_false (by omega);have Xk:(3=N5)=False:=eq_false (by omega);have Xd:(N5=4)=False:=eq_false (by omega);have Xj:(4=N5)=False:=eq_false (by omega);have Xc:(N5=5)=False:=eq_false (by omega);have Xi:(5=N5)=False:=eq_false (by omega);have fJ:(N1=N)=False:=eq_false (by omega)
  have fh:(N=N1)=False:=eq_false (by omega);have gK:(N1<=N)=False:=eq_false (by omega);have fC:(N2=N)=False:=eq_false (by omega);have ff:(N=N2)=False:=eq_false (by omega);have gJ:(N2<=N)=False:=eq_false (by omega);have cI:(N2=N1)=False:=eq_false (by omega);have cL:(N1=N2)=False:=eq_false (by omega);have cR:(N2<=N1)=False:=eq_false (by omega)
  have fq:(N3=N)=False:=eq_false (by omega);have e9:(N=N3)=False:=eq_false (by omega);have gI:(N3<=N)=False:=eq_false (by omega);have cF:(N3=N1)=False:=eq_false (by omega);have cK:(N1=N3)=False:=eq_false (by omega);have cQ:(N3<=N1)=False:=eq_false (by omega);have cE:(N3=N2)=False:=eq_false (by omega);have cH:(N2=N3)=False:=eq_false (by omega)
  have cP:(N3<=N2)=False:=eq_false (by omega);have fi:(N4=N)=False:=eq_false (by omega);have e8:(N=N4)=False:=eq_false (by omega);have gH:(N4<=N)=False:=eq_false (by omega);have cC:(N4=N1)=False:=eq_false (by omega);have cJ:(N1=N4)=False:=eq_false (by omega);have cO:(N4<=N1)=False:=eq_false (by omega);have cB:(N4=N2)=False:=eq_false (by omega)
  have cG:(N2=N4)=False:=eq_false (by omega);have cN:(N4<=N2)=False:=eq_false (by omega);have cz:(N4=N3)=False:=eq_false (by omega);have cD:(N3=N4)=False:=eq_false (by omega);have cM:(N4<=N3)=False:=eq_false (by omega);have Xb:(N5=N)=False:=eq_false (by omega);have Xa:(N=N5)=False:=eq_false (by omega);have Xm:(N5<=N)=False:=eq_false (by omega)
  have Pt:(N5=N1)=False:=eq_false (by omega);have Px:(N1=N5)=False:=eq_false (by omega);have PB:(N5<=N1)=False:=eq_false (by omega);have Ps:(N5=N2)=False:=eq_false (by omega);have Pw:(N2=N5)=False:=eq_false (by omega);have PA:(N5<=N2)=False:=eq_false (by omega);have Pr:(N5=N3)=False:=eq_false (by omega);have Pv:(N3=N5)=False:=eq_false (by omega)
  have Pz:(N5<=N3)=False:=eq_false (by omega);have Pq:(N5=N4)=False:=eq_false (by omega);have Pu:(N4=N5)=False:=eq_false (by omega);have Py:(N5<=N4)=False:=eq_false (by omega);cases hf:qH l k with
  |none=>
   refine qb.intro [.cell 5 29] Tryz.func40 rfl rfl (by decide) (by simp [Tryz.ntmps40]) ?_;rw [Tryz.ntmps40]
   repeat' (first|omega|(try apply ah);simp only [go_sem,sevalprocAttr,hN,k2,k3,k4,k5,hf,Bs,w4,EY,tD,tC,tB,tA,kv,kO,ks,kL,kr,kJ,kq,kD,fO,gF,fN,gx,fM,gp,fL,gd,fI,gD,fH,gw,fG,gn,fF,gb,fB,gA,fA,gu,fy,gm,fx,ga,fp,gz,fm,gr,fk,gj,fj,fZ,fJ,fh,gK,fC,ff,gJ,cI,cL,cR,fq,e9,gI,cF,cK,cQ,cE,cH,cP,fi,e8,gH,cC,cJ,cO,cB,cG,cN,cz,cD,cM]|(refine ⟨aO.fn (r:=?_) rfl ?_ ?_⟩;rotate_left;assumption)|(refine ⟨c8.fn (r:=?_) rfl ?_ ?_⟩;rotate_left;assumption)|apply ag<;>(intro h_;(try simp only [h_]);revert h_)|apply And.intro|with_reducible intro h_|trivial|simp only [go_sem,ai];omega)
   all_goals
    obtain ⟨z1,z2,z3⟩:=hE [(N4,_),(N3,_),(N2,_),(N1,_),(N,_)] (lput l k (jo false p)) (by simp only [List.forall_mem_cons];exact ⟨by omega,by omega,by omega,by omega,by omega,fun _ h=>by cases h⟩);exact hK _ _ (hl.put NU) z1 z2 z3
  |some x=>
   obtain ⟨k',q',e1,e2,rfl⟩:=hl _ _ hf;obtain rfl:k'=k:=by omega
   obtain rfl:q'=p:=e2.uniq NU;have e0:H=hset H 2 (.imap 67 l):=(yS k2).symm;refine qb.intro [.cell 5 29] Tryz.func40 rfl rfl (by decide) (by simp [Tryz.ntmps40]) ?_;rw [Tryz.ntmps40]
   repeat' (first|omega|(try apply ah);simp only [go_sem,sevalprocAttr,hN,k2,k3,k4,k5,hf,Bs,w4,EY,tD,tC,tB,tA,kv,kO,ks,kL,kr,kJ,kq,kD,fO,gF,fN,gx,fM,gp,fL,gd,fI,gD,fH,gw,fG,gn,fF,gb,fB,gA,fA,gu,fy,gm,fx,ga,fp,gz,fm,gr,fk,gj,fj,fZ,fJ,fh,gK,fC,ff,gJ,cI,cL,cR,fq,e9,gI,cF,cK,cQ,cE,cH,cP,fi,e8,gH,cC,cJ,cO,cB,cG,cN,cz,cD,cM]|(refine ⟨aO.fn (r:=?_) rfl ?_ ?_⟩;rotate_left;assumption)|(refine ⟨c8.fn (r:=?_) rfl ?_ ?_⟩;rotate_left;assumption)|apply ag<;>(intro h_;(try simp only [h_]);revert h_)|apply And.intro|with_reducible intro h_|trivial|simp only [go_sem,ai];omega)
   all_goals
    obtain ⟨z1,z2,z3⟩:=hE [(N4,_),(N3,_),(N2,_),(N1,_),(N,_)] l (by simp only [List.forall_mem_cons];exact ⟨by omega,by omega,by omega,by omega,by omega,fun _ h=>by cases h⟩);rw [←e0] at z1 z2 z3;exact hK _ _ hl z1 z2 z3
 ·obtain ⟨k5,k4,k3,k2,kN⟩:=hH;have hR:=Tk s m L (fun _=>by have:=h.len;omega);unfold resA at hR;rw [if_pos h.val] at hR;rw [hb] at hR;dsimp only at hR;rw [Int.toNat_natCast,WM] at hR;have hlen:=h.len;have nU:=h1.len;have B6:=h2.len;have v1:=dr h1.val;have v2:=dr h2.val;obtain ⟨q1,AA⟩:=EM (Hs.lS v1) (by omega);obtain ⟨q2,ot⟩:=EM (Hs.lS v2) (by omega);have S1:=Hs.lS v1
  have S2:=Hs.lS v2;have B1:=Hs.nV v1 (by omega);have B2:=Hs.nV v2 (by omega);have B0:=Hs.nV (dr h.val) (by omega);have st:=Hs.rE h.val hc WM h2.val h1.val (by omega) (by omega) e1;have Bs: ∀o,hget (hset H 2 o) 4=some y6:=fun o=>by rw [jW (by decide)];exact k4
  have w4:hset H 4 y6=H:=yS k4;have EY: ∀o,hset (hset H 2 o) 4 y6=hset H 2 o:=fun o=>yS (Bs o);have hB:=QL false p;generalize hN:hnew H=N at*;obtain ⟨N1,tD⟩: ∃x,N+1=x:=⟨_,rfl⟩;obtain ⟨N2,tC⟩: ∃x,N1+1=x:=⟨_,rfl⟩;obtain ⟨N3,tB⟩: ∃x,N2+1=x:=⟨_,rfl⟩;obtain ⟨N4,tA⟩: ∃x,N3+1=x:=⟨_,rfl⟩;have kv:(N=2)=False:=eq_false (by omega);have kO:(2=N)=False:=eq_false (by omega)
  have ks:(N=3)=False:=eq_false (by omega);have kL:(3=N)=False:=eq_false (by omega);have kr:(N=4)=False:=eq_false (by omega);have kJ:(4=N)=False:=eq_false (by omega);have kq:(N=5)=False:=eq_false (by omega);have kD:(5=N)=False:=eq_false (by omega);have fO:(N1=2)=False:=eq_false (by omega);have gF:(2=N1)=False:=eq_false (by omega);have fN:(N1=3)=False:=eq_false (by omega)
  have gx:(3=N1)=False:=eq_false (by omega);have fM:(N1=4)=False:=eq_false (by omega);have gp:(4=N1)=False:=eq_false (by omega);have fL:(N1=5)=False:=eq_false (by omega);have gd:(5=N1)=False:=eq_false (by omega);have fI:(N2=2)=False:=eq_false (by omega);have gD:(2=N2)=False:=eq_false (by omega);have fH:(N2=3)=False:=eq_false (by omega)
  have gw:(3=N2)=False:=eq_false (by omega);have fG:(N2=4)=False:=eq_false (by omega);have gn:(4=N2)=False:=eq_false (by omega);have fF:(N2=5)=False:=eq_false (by omega);have gb:(5=N2)=False:=eq_false (by omega);have fB:(N3=2)=False:=eq_false (by omega);have gA:(2=N3)=False:=eq_false (by omega);have fA:(N3=3)=False:=eq_false (by omega)
  have gu:(3=N3)=False:=eq_false (by omega);have fy:(N3=4)=False:=eq_false (by omega);have gm:(4=N3)=False:=eq_false (by omega);have fx:(N3=5)=False:=eq_false (by omega);have ga:(5=N3)=False:=eq_false (by omega);have fp:(N4=2)=False:=eq_false (by omega);have gz:(2=N4)=False:=eq_false (by omega);have fm:(N4=3)=False:=eq_false (by omega)
  have gr:(3=N4)=False:=eq_false (by omega);have fk:(N4=4)=False:=eq_false (by omega);have gj:(4=N4)=False:=eq_false (by omega);have fj:(N4=5)=False:=eq_false (by omega);have fZ:(5=N4)=False:=eq_false (by omega);have fJ:(N1=N)=False:=eq_false (by omega);have fh:(N=N1)=False:=eq_false (by omega);have gK:(N1<=N)=False:=eq_false (by omega)
  have fC:(N2=N)=False:=eq_false (by omega);have ff:(N=N2)=False:=eq_false (by omega);have gJ:(N2<=N)=False:=eq_false (by omega);have cI:(N2=N1)=False:=eq_false (by omega);have cL:(N1=N2)=False:=eq_false (by omega);have cR:(N2<=N1)=False:=eq_false (by omega);have fq:(N3=N)=False:=eq_false (by omega);have e9:(N=N3)=False:=eq_false (by omega)
  have gI:(N3<=N)=False:=eq_false (by omega);have cF:(N3=N1)=False:=eq_false (by omega);have cK:(N1=N3)=False:=eq_false (by omega);have cQ:(N3<=N1)=False:=eq_false (by omega);have cE:(N3=N2)=False:=eq_false (by omega);have cH:(N2=N3)=False:=eq_false (by omega);have cP:(N3<=N2)=False:=eq_false (by omega);have fi:(N4=N)=False:=eq_false (by omega)
  have e8:(N=N4)=False:=eq_false (by omega);have gH:(N4<=N)=False:=eq_false (by omega);have cC:(N4=N1)=False:=eq_false (by omega);have cJ:(N1=N4)=False:=eq_false (by omega);have cO:(N4<=N1)=False:=eq_false (by omega);have cB:(N4=N2)=False:=eq_false (by omega);have cG:(N2=N4)=False:=eq_false (by omega);have cN:(N4<=N2)=False:=eq_false (by omega)
  have cz:(N4=N3)=False:=eq_false (by omega);have cD:(N3=N4)=False:=eq_false (by omega);have cM:(N4<=N3)=False:=eq_false (by omega);rcases mC with sw|sw
  ·have J6:=I8 q2 1 1 (ot.od S2 (by omega)) (by decide) (by decide) (fun t ht=>by have:=ot.qm S2 ht;omega);have OR:=I8 q1 2 0 (AA.od S1 (by omega)) (by decide) (by decide) (fun t ht=>by have:=AA.qm S1 ht;omega)
   have hA:=ZR (r:=p) (N:=150) (AA.shift (bB 2 0)) (ot.shift (bB 1 1)) ((S1.shift (a:=2) (z:=0) (M:=2) (by decide) (by decide) (by omega) (by decide)).mono (by omega)) ((S2.shift (a:=1) (z:=1) (M:=2) (by decide) (by decide) (by omega) (by decide)).mono (by omega)) (by decide) (fun e=>B1 _) (fun e=>B2 _) (hp.congr fun e=>by rw [st e,sw];rfl) (fun e=>by
    have:=B0 e
    rw [st e,sw] at this;exact this)
   rw [show (q1.map fun t=>(t.1+bB 2 0,t.2))=j7 (bB 2 0) q1 from rfl,show (q2.map fun t=>(t.1+bB 1 1,t.2))=j7 (bB 1 1) q2 from rfl] at hA;refine qb.intro [.cell 5 29] Tryz.func40 rfl rfl (by decide) (by simp [Tryz.ntmps40]) ?_;rw [Tryz.ntmps40]
   repeat' (first|omega|(try apply ah);simp only [go_sem,sevalprocAttr,hN,k2,k3,k4,k5,Bs,w4,EY,sw,tD,tC,tB,tA,kv,kO,ks,kL,kr,kJ,kq,kD,fO,gF,fN,gx,fM,gp,fL,gd,fI,gD,fH,gw,fG,gn,fF,gb,fB,gA,fA,gu,fy,gm,fx,ga,fp,gz,fm,gr,fk,gj,fj,fZ,fJ,fh,gK,fC,ff,gJ,cI,cL,cR,fq,e9,gI,cF,cK,cQ,cE,cH,cP,fi,e8,gH,cC,cJ,cO,cB,cG,cN,cz,cD,cM]|(refine ⟨aO.fn (r:=?_) rfl ?_ ?_⟩;rotate_left;assumption)|(refine ⟨c8.fn (r:=?_) rfl ?_ ?_⟩;rotate_left;assumption)|apply ag<;>(intro h_;(try simp only [h_]);revert h_)|apply And.intro|with_reducible intro h_|trivial|simp only [go_sem,ai];omega)
   refine ⟨aO.inline (tW q2 ot l hl _ ?_ _ _ fun H1 l1 w1 w2 w3 w5=>?_)⟩
   ·constructor<;>(simp only [go_sem,sevalprocAttr,hN,k2,k3,k4,k5,tD,tC,tB,tA,kv,kO,ks,kL,kr,kJ,kq,kD,fO,gF,fN,gx,fM,gp,fL,gd,fI,gD,fH,gw,fG,gn,fF,gb,fB,gA,fA,gu,fy,gm,fx,ga,fp,gz,fm,gr,fk,gj,fj,fZ,fJ,fh,gK,fC,ff,gJ,cI,cL,cR,fq,e9,gI,cF,cK,cQ,cE,cH,cP,fi,e8,gH,cC,cJ,cO,cB,cG,cN,cz,cD,cM])
    all_goals omega
   clear tW;obtain ⟨i5,i4,i3,i2,iN⟩:=w2
   simp only [go_sem,sevalprocAttr,hN,tD,tC,tB,tA,kv,kO,ks,kL,kr,kJ,kq,kD,fO,gF,fN,gx,fM,gp,fL,gd,fI,gD,fH,gw,fG,gn,fF,gb,fB,gA,fA,gu,fy,gm,fx,ga,fp,gz,fm,gr,fk,gj,fj,fZ,fJ,fh,gK,fC,ff,gJ,cI,cL,cR,fq,e9,gI,cF,cK,cQ,cE,cH,cP,fi,e8,gH,cC,cJ,cO,cB,cG,cN,cz,cD,cM] at w3 w5
   have u0:=w5 N (by omega) (by omega);have u1:=w5 N1 (by omega) (by omega);have u2:=w5 N2 (by omega) (by omega);have u3:=w5 N3 (by omega) (by omega)
   simp only [go_sem,sevalprocAttr,tD,tC,tB,tA,kv,kO,ks,kL,kr,kJ,kq,kD,fO,gF,fN,gx,fM,gp,fL,gd,fI,gD,fH,gw,fG,gn,fF,gb,fB,gA,fA,gu,fy,gm,fx,ga,fp,gz,fm,gr,fk,gj,fj,fZ,fJ,fh,gK,fC,ff,gJ,cI,cL,cR,fq,e9,gI,cF,cK,cQ,cE,cH,cP,fi,e8,gH,cC,cJ,cO,cB,cG,cN,cz,cD,cM] at u0 u1 u2 u3
   have g1: ∀i,i<N->i≠2->hget H1 i=hget H i:=fun i hi h2=>by
    have:=w5 i (by omega) h2
    rw [this]
    repeat rw [if_neg (by omega)]
   generalize hM:hnew H1=M at*;obtain ⟨M1,tE⟩: ∃x,M+1=x:=⟨_,rfl⟩;have kB:(M=2)=False:=eq_false (by omega);have kU:(2=M)=False:=eq_false (by omega);have kz:(M=3)=False:=eq_false (by omega);have kM:(3=M)=False:=eq_false (by omega);have ky:(M=4)=False:=eq_false (by omega);have kK:(4=M)=False:=eq_false (by omega);have kx:(M=5)=False:=eq_false (by omega)
   have kH:(5=M)=False:=eq_false (by omega);have fY:(M1=2)=False:=eq_false (by omega);have gG:(2=M1)=False:=eq_false (by omega);have fX:(M1=3)=False:=eq_false (by omega);have gy:(3=M1)=False:=eq_false (by omega);have fW:(M1=4)=False:=eq_false (by omega);have gq:(4=M1)=False:=eq_false (by omega);have fV:(M1=5)=False:=eq_false (by omega)
   have gh:(5=M1)=False:=eq_false (by omega);have oV:(M=N)=False:=eq_false (by omega);have oU:(N=M)=False:=eq_false (by omega);have jK:(M=N1)=False:=eq_false (by omega);have jH:(N1=M)=False:=eq_false (by omega);have jJ:(M=N2)=False:=eq_false (by omega);have jG:(N2=M)=False:=eq_false (by omega);have jI:(M=N3)=False:=eq_false (by omega)
   have jF:(N3=M)=False:=eq_false (by omega);have fU:(M1=M)=False:=eq_false (by omega);have fP:(M=M1)=False:=eq_false (by omega);have gL:(M1<=M)=False:=eq_false (by omega);have jL:(M1=N)=False:=eq_false (by omega);have jE:(N=M1)=False:=eq_false (by omega);have fT:(M1=N1)=False:=eq_false (by omega);have fK:(N1=M1)=False:=eq_false (by omega)
   have fR:(M1=N2)=False:=eq_false (by omega);have fD:(N2=M1)=False:=eq_false (by omega);have fQ:(M1=N3)=False:=eq_false (by omega);have fv:(N3=M1)=False:=eq_false (by omega)
   repeat' (first|omega|(try apply ah);simp only [go_sem,sevalprocAttr,hM,i2,i3,i4,i5,u0,u1,u2,u3,sw,tD,tC,tB,tA,kv,kO,ks,kL,kr,kJ,kq,kD,fO,gF,fN,gx,fM,gp,fL,gd,fI,gD,fH,gw,fG,gn,fF,gb,fB,gA,fA,gu,fy,gm,fx,ga,fp,gz,fm,gr,fk,gj,fj,fZ,fJ,fh,gK,fC,ff,gJ,cI,cL,cR,fq,e9,gI,cF,cK,cQ,cE,cH,cP,fi,e8,gH,cC,cJ,cO,cB,cG,cN,cz,cD,cM,tE,kB,kU,kz,kM,ky,kK,kx,kH,fY,gG,fX,gy,fW,gq,fV,gh,oV,oU,jK,jH,jJ,jG,jI,jF,fU,fP,gL,jL,jE,fT,fK,fR,fD,fQ,fv]|(refine ⟨aO.fn (r:=?_) rfl ?_ ?_⟩;rotate_left;assumption)|(refine ⟨c8.fn (r:=?_) rfl ?_ ?_⟩;rotate_left;assumption)|apply ag<;>(intro h_;(try simp only [h_]);revert h_)|apply And.intro|with_reducible intro h_|trivial|simp only [go_sem,ai];omega)
   refine ⟨aO.inline (JG q1 AA l1 w1 _ ?_ _ _ fun H2 l2 x1 x2 x3 x5=>?_)⟩
   ·constructor<;>(simp only [go_sem,sevalprocAttr,hM,i2,i3,i4,i5,tE,kB,kU,kz,kM,ky,kK,kx,kH,fY,gG,fX,gy,fW,gq,fV,gh,oV,oU,jK,jH,jJ,jG,jI,jF,fU,fP,gL,jL,jE,fT,fK,fR,fD,fQ,fv])
    all_goals omega
   clear JG;obtain ⟨j5,j4,j3,j2,jN⟩:=x2;simp only [go_sem,sevalprocAttr,hM,tE,kB,kU,kz,kM,ky,kK,kx,kH,fY,gG,fX,gy,fW,gq,fV,gh,oV,oU,jK,jH,jJ,jG,jI,jF,fU,fP,gL,jL,jE,fT,fK,fR,fD,fQ,fv] at x3 x5;have v0:=x5 N (by omega) (by omega);have v1:=x5 N1 (by omega) (by omega)
   have v2:=x5 N2 (by omega) (by omega);have v3:=x5 N3 (by omega) (by omega);have v4:=x5 M (by omega) (by omega);simp only [go_sem,sevalprocAttr,tE,kB,kU,kz,kM,ky,kK,kx,kH,fY,gG,fX,gy,fW,gq,fV,gh,oV,oU,jK,jH,jJ,jG,jI,jF,fU,fP,gL,jL,jE,fT,fK,fR,fD,fQ,fv,u0,u1,u2,u3] at v0 v1 v2 v3 v4
   have g2: ∀i,i<N->i≠2->hget H2 i=hget H i:=fun i hi h2=>by
    have:=x5 i (by omega) h2
    rw [this]
    repeat rw [if_neg (by omega)]
    exact g1 i hi h2
   have y4:hset H2 4 y6=H2:=yS j4;have y1: ∀o,hget (hset H2 N1 o) N1=some o:=fun o=>sN v1;have OZ:=fun X o=>RT (X:=X) ⟨j5,j4,j3,j2,jN⟩ (N:=N) (by omega) (by omega) g2 N1 (by omega) o;generalize hQ:hnew H2=Q at*;obtain ⟨Q1,PC⟩: ∃x,Q+1=x:=⟨_,rfl⟩;have CI:(Q=2)=False:=eq_false (by omega);have CQ:(2=Q)=False:=eq_false (by omega);have CH:(Q=3)=False:=eq_false (by omega)
   have CP:(3=Q)=False:=eq_false (by omega);have CG:(Q=4)=False:=eq_false (by omega);have CO:(4=Q)=False:=eq_false (by omega);have CF:(Q=5)=False:=eq_false (by omega);have CN:(5=Q)=False:=eq_false (by omega);have xG:(Q1=2)=False:=eq_false (by omega);have xR:(2=Q1)=False:=eq_false (by omega);have xF:(Q1=3)=False:=eq_false (by omega);have xQ:(3=Q1)=False:=eq_false (by omega)
   have xE:(Q1=4)=False:=eq_false (by omega);have xP:(4=Q1)=False:=eq_false (by omega);have xD:(Q1=5)=False:=eq_false (by omega);have xO:(5=Q1)=False:=eq_false (by omega);have CD:(Q=N)=False:=eq_false (by omega);have CJ:(N=Q)=False:=eq_false (by omega);have xz:(Q=N1)=False:=eq_false (by omega);have xK:(N1=Q)=False:=eq_false (by omega)
   have xx:(Q=N2)=False:=eq_false (by omega);have xJ:(N2=Q)=False:=eq_false (by omega);have xw:(Q=N3)=False:=eq_false (by omega);have xI:(N3=Q)=False:=eq_false (by omega);have CE:(Q=M)=False:=eq_false (by omega);have CK:(M=Q)=False:=eq_false (by omega);have xA:(Q1=Q)=False:=eq_false (by omega);have xv:(Q=Q1)=False:=eq_false (by omega)
   have xU:(Q1<=Q)=False:=eq_false (by omega);have xB:(Q1=N)=False:=eq_false (by omega);have xH:(N=Q1)=False:=eq_false (by omega);have tr:(Q1=N1)=False:=eq_false (by omega);have tz:(N1=Q1)=False:=eq_false (by omega);have tq:(Q1=N2)=False:=eq_false (by omega);have tx:(N2=Q1)=False:=eq_false (by omega);have tp:(Q1=N3)=False:=eq_false (by omega)
   have tu:(N3=Q1)=False:=eq_false (by omega);have xC:(Q1=M)=False:=eq_false (by omega);have xL:(M=Q1)=False:=eq_false (by omega)
   repeat' (first|omega|(try apply ah);simp only [go_sem,sevalprocAttr,hQ,j2,j3,j4,j5,v0,v1,v2,v3,v4,y1,y4,sw,tD,tC,tB,tA,kv,kO,ks,kL,kr,kJ,kq,kD,fO,gF,fN,gx,fM,gp,fL,gd,fI,gD,fH,gw,fG,gn,fF,gb,fB,gA,fA,gu,fy,gm,fx,ga,fp,gz,fm,gr,fk,gj,fj,fZ,fJ,fh,gK,fC,ff,gJ,cI,cL,cR,fq,e9,gI,cF,cK,cQ,cE,cH,cP,fi,e8,gH,cC,cJ,cO,cB,cG,cN,cz,cD,cM,tE,kB,kU,kz,kM,ky,kK,kx,kH,fY,gG,fX,gy,fW,gq,fV,gh,oV,oU,jK,jH,jJ,jG,jI,jF,fU,fP,gL,jL,jE,fT,fK,fR,fD,fQ,fv,PC,CI,CQ,CH,CP,CG,CO,CF,CN,xG,xR,xF,xQ,xE,xP,xD,xO,CD,CJ,xz,xK,xx,xJ,xw,xI,CE,CK,xA,xv,xU,xB,xH,tr,tz,tq,tx,tp,tu,xC,xL]|(refine ⟨aO.fn (r:=?_) rfl ?_ ?_⟩;rotate_left;assumption)|(refine ⟨c8.fn (r:=?_) rfl ?_ ?_⟩;rotate_left;assumption)|apply ag<;>(intro h_;(try simp only [h_]);revert h_)|apply And.intro|with_reducible intro h_|trivial|simp only [go_sem,ai];omega)
   all_goals
    obtain ⟨z1,z2,z3⟩:=OZ [(Q,_)] _ (by simp only [List.forall_mem_cons];exact ⟨by omega,fun _ h=>by cases h⟩);exact hK _ _ x1 z1 z2 z3
  ·have J6:=I8 q2 (-1) 1 (ot.od S2 (by omega)) (by decide) (by decide) (fun t ht=>by have:=ot.qm S2 ht;omega);have OR:=I8 q1 (-2) 0 (AA.od S1 (by omega)) (by decide) (by decide) (fun t ht=>by have:=AA.qm S1 ht;omega)
   have hA:=Qh (r:=p) (N:=150) (AA.shift (bB (-2) 0)) (ot.shift (bB (-1) 1)) ((S1.shift (a:=(-2)) (z:=0) (M:=2) (by decide) (by decide) (by omega) (by decide)).mono (by omega)) ((S2.shift (a:=(-1)) (z:=1) (M:=2) (by decide) (by decide) (by omega) (by decide)).mono (by omega)) (by decide) (fun e=>B1 _) (fun e=>B2 _) (hp.congr fun e=>by rw [st e,sw];rfl) (fun e=>by
    have:=B0 e
    rw [st e,sw] at this;exact this)
   rw [show (q1.map fun t=>(t.1+bB (-2) 0,t.2))=j7 (bB (-2) 0) q1 from rfl,show (q2.map fun t=>(t.1+bB (-1) 1,t.2))=j7 (bB (-1) 1) q2 from rfl] at hA;refine qb.intro [.cell 5 29] Tryz.func40 rfl rfl (by decide) (by simp [Tryz.ntmps40]) ?_;rw [Tryz.ntmps40]
   repeat' (first|omega|(try apply ah);simp only [go_sem,sevalprocAttr,hN,k2,k3,k4,k5,Bs,w4,EY,sw,tD,tC,tB,tA,kv,kO,ks,kL,kr,kJ,kq,kD,fO,gF,fN,gx,fM,gp,fL,gd,fI,gD,fH,gw,fG,gn,fF,gb,fB,gA,fA,gu,fy,gm,fx,ga,fp,gz,fm,gr,fk,gj,fj,fZ,fJ,fh,gK,fC,ff,gJ,cI,cL,cR,fq,e9,gI,cF,cK,cQ,cE,cH,cP,fi,e8,gH,cC,cJ,cO,cB,cG,cN,cz,cD,cM]|(refine ⟨aO.fn (r:=?_) rfl ?_ ?_⟩;rotate_left;assumption)|(refine ⟨c8.fn (r:=?_) rfl ?_ ?_⟩;rotate_left;assumption)|apply ag<;>(intro h_;(try simp only [h_]);revert h_)|apply And.intro|with_reducible intro h_|trivial|simp only [go_sem,ai];omega)
   refine ⟨aO.inline (tW q2 ot l hl _ ?_ _ _ fun H1 l1 w1 w2 w3 w5=>?_)⟩
   ·constructor<;>(simp only [go_sem,sevalprocAttr,hN,k2,k3,k4,k5,tD,tC,tB,tA,kv,kO,ks,kL,kr,kJ,kq,kD,fO,gF,fN,gx,fM,gp,fL,gd,fI,gD,fH,gw,fG,gn,fF,gb,fB,gA,fA,gu,fy,gm,fx,ga,fp,gz,fm,gr,fk,gj,fj,fZ,fJ,fh,gK,fC,ff,gJ,cI,cL,cR,fq,e9,gI,cF,cK,cQ,cE,cH,cP,fi,e8,gH,cC,cJ,cO,cB,cG,cN,cz,cD,cM])
    all_goals omega
   clear tW;obtain ⟨i5,i4,i3,i2,iN⟩:=w2
   simp only [go_sem,sevalprocAttr,hN,tD,tC,tB,tA,kv,kO,ks,kL,kr,kJ,kq,kD,fO,gF,fN,gx,fM,gp,fL,gd,fI,gD,fH,gw,fG,gn,fF,gb,fB,gA,fA,gu,fy,gm,fx,ga,fp,gz,fm,gr,fk,gj,fj,fZ,fJ,fh,gK,fC,ff,gJ,cI,cL,cR,fq,e9,gI,cF,cK,cQ,cE,cH,cP,fi,e8,gH,cC,cJ,cO,cB,cG,cN,cz,cD,cM] at w3 w5
   have u0:=w5 N (by omega) (by omega);have u1:=w5 N1 (by omega) (by omega);have u2:=w5 N2 (by omega) (by omega);have u3:=w5 N3 (by omega) (by omega)
   simp only [go_sem,sevalprocAttr,tD,tC,tB,tA,kv,kO,ks,kL,kr,kJ,kq,kD,fO,gF,fN,gx,fM,gp,fL,gd,fI,gD,fH,gw,fG,gn,fF,gb,fB,gA,fA,gu,fy,gm,fx,ga,fp,gz,fm,gr,fk,gj,fj,fZ,fJ,fh,gK,fC,ff,gJ,cI,cL,cR,fq,e9,gI,cF,cK,cQ,cE,cH,cP,fi,e8,gH,cC,cJ,cO,cB,cG,cN,cz,cD,cM] at u0 u1 u2 u3
   have g1: ∀i,i<N->i≠2->hget H1 i=hget H i:=fun i hi h2=>by
    have:=w5 i (by omega) h2
    rw [this]
    repeat rw [if_neg (by omega)]
   generalize hM:hnew H1=M at*;obtain ⟨M1,tE⟩: ∃x,M+1=x:=⟨_,rfl⟩;have kB:(M=2)=False:=eq_false (by omega);have kU:(2=M)=False:=eq_false (by omega);have kz:(M=3)=False:=eq_false (by omega);have kM:(3=M)=False:=eq_false (by omega);have ky:(M=4)=False:=eq_false (by omega);have kK:(4=M)=False:=eq_false (by omega);have kx:(M=5)=False:=eq_false (by omega)
   have kH:(5=M)=False:=eq_false (by omega);have fY:(M1=2)=False:=eq_false (by omega);have gG:(2=M1)=False:=eq_false (by omega);have fX:(M1=3)=False:=eq_false (by omega);have gy:(3=M1)=False:=eq_false (by omega);have fW:(M1=4)=False:=eq_false (by omega);have gq:(4=M1)=False:=eq_false (by omega);have fV:(M1=5)=False:=eq_false (by omega)
   have gh:(5=M1)=False:=eq_false (by omega);have oV:(M=N)=False:=eq_false (by omega);have oU:(N=M)=False:=eq_false (by omega);have jK:(M=N1)=False:=eq_false (by omega);have jH:(N1=M)=False:=eq_false (by omega);have jJ:(M=N2)=False:=eq_false (by omega);have jG:(N2=M)=False:=eq_false (by omega);have jI:(M=N3)=False:=eq_false (by omega)
   have jF:(N3=M)=False:=eq_false (by omega);have fU:(M1=M)=False:=eq_false (by omega);have fP:(M=M1)=False:=eq_false (by omega);have gL:(M1<=M)=False:=eq_false (by omega);have jL:(M1=N)=False:=eq_false (by omega);have jE:(N=M1)=False:=eq_false (by omega);have fT:(M1=N1)=False:=eq_false (by omega);have fK:(N1=M1)=False:=eq_false (by omega)
   have fR:(M1=N2)=False:=eq_false (by omega);have fD:(N2=M1)=False:=eq_false (by omega);have fQ:(M1=N3)=False:=eq_false (by omega);have fv:(N3=M1)=False:=eq_false (by omega)
   repeat' (first|omega|(try apply ah);simp only [go_sem,sevalprocAttr,hM,i2,i3,i4,i5,u0,u1,u2,u3,sw,tD,tC,tB,tA,kv,kO,ks,kL,kr,kJ,kq,kD,fO,gF,fN,gx,fM,gp,fL,gd,fI,gD,fH,gw,fG,gn,fF,gb,fB,gA,fA,gu,fy,gm,fx,ga,fp,gz,fm,gr,fk,gj,fj,fZ,fJ,fh,gK,fC,ff,gJ,cI,cL,cR,fq,e9,gI,cF,cK,cQ,cE,cH,cP,fi,e8,gH,cC,cJ,cO,cB,cG,cN,cz,cD,cM,tE,kB,kU,kz,kM,ky,kK,kx,kH,fY,gG,fX,gy,fW,gq,fV,gh,oV,oU,jK,jH,jJ,jG,jI,jF,fU,fP,gL,jL,jE,fT,fK,fR,fD,fQ,fv]|(refine ⟨aO.fn (r:=?_) rfl ?_ ?_⟩;rotate_left;assumption)|(refine ⟨c8.fn (r:=?_) rfl ?_ ?_⟩;rotate_left;assumption)|apply ag<;>(intro h_;(try simp only [h_]);revert h_)|apply And.intro|with_reducible intro h_|trivial|simp only [go_sem,ai];omega)
   refine ⟨aO.inline (JG q1 AA l1 w1 _ ?_ _ _ fun H2 l2 x1 x2 x3 x5=>?_)⟩
   ·constructor<;>(simp only [go_sem,sevalprocAttr,hM,i2,i3,i4,i5,tE,kB,kU,kz,kM,ky,kK,kx,kH,fY,gG,fX,gy,fW,gq,fV,gh,oV,oU,jK,jH,jJ,jG,jI,jF,fU,fP,gL,jL,jE,fT,fK,fR,fD,fQ,fv])
    all_goals omega
   clear JG;obtain ⟨j5,j4,j3,j2,jN⟩:=x2;simp only [go_sem,sevalprocAttr,hM,tE,kB,kU,kz,kM,ky,kK,kx,kH,fY,gG,fX,gy,fW,gq,fV,gh,oV,oU,jK,jH,jJ,jG,jI,jF,fU,fP,gL,jL,jE,fT,fK,fR,fD,fQ,fv] at x3 x5;have v0:=x5 N (by omega) (by omega);have v1:=x5 N1 (by omega) (by omega)
   have v2:=x5 N2 (by omega) (by omega);have v3:=x5 N3 (by omega) (by omega);have v4:=x5 M (by omega) (by omega);simp only [go_sem,sevalprocAttr,tE,kB,kU,kz,kM,ky,kK,kx,kH,fY,gG,fX,gy,fW,gq,fV,gh,oV,oU,jK,jH,jJ,jG,jI,jF,fU,fP,gL,jL,jE,fT,fK,fR,fD,fQ,fv,u0,u1,u2,u3] at v0 v1 v2 v3 v4
   have g2: ∀i,i<N->i≠2->hget H2 i=hget H i:=fun i hi h2=>by
    have:=x5 i (by omega) h2
    rw [this]
    repeat rw [if_neg (by omega)]
    exact g1 i hi h2
   have y4:hset H2 4 y6=H2:=yS j4;have y1: ∀o,hget (hset H2 N1 o) N1=some o:=fun o=>sN v1;have OZ:=fun X o=>RT (X:=X) ⟨j5,j4,j3,j2,jN⟩ (N:=N) (by omega) (by omega) g2 N1 (by omega) o;generalize hQ:hnew H2=Q at*;obtain ⟨Q1,PC⟩: ∃x,Q+1=x:=⟨_,rfl⟩;have CI:(Q=2)=False:=eq_false (by omega);have CQ:(2=Q)=False:=eq_false (by omega);have CH:(Q=3)=False:=eq_false (by omega)
   have CP:(3=Q)=False:=eq_false (by omega);have CG:(Q=4)=False:=eq_false (by omega);have CO:(4=Q)=False:=eq_false (by omega);have CF:(Q=5)=False:=eq_false (by omega);have CN:(5=Q)=False:=eq_false (by omega);have xG:(Q1=2)=False:=eq_false (by omega);have xR:(2=Q1)=False:=eq_false (by omega);have xF:(Q1=3)=False:=eq_false (by omega);have xQ:(3=Q1)=False:=eq_false (by omega)
   have xE:(Q1=4)=False:=eq_false (by omega);have xP:(4=Q1)=False:=eq_false (by omega);have xD:(Q1=5)=False:=eq_false (by omega);have xO:(5=Q1)=False:=eq_false (by omega);have CD:(Q=N)=False:=eq_false (by omega);have CJ:(N=Q)=False:=eq_false (by omega);have xz:(Q=N1)=False:=eq_false (by omega);have xK:(N1=Q)=False:=eq_false (by omega)
   have xx:(Q=N2)=False:=eq_false (by omega);have xJ:(N2=Q)=False:=eq_false (by omega);have xw:(Q=N3)=False:=eq_false (by omega);have xI:(N3=Q)=False:=eq_false (by omega);have CE:(Q=M)=False:=eq_false (by omega);have CK:(M=Q)=False:=eq_false (by omega);have xA:(Q1=Q)=False:=eq_false (by omega);have xv:(Q=Q1)=False:=eq_false (by omega)
   have xU:(Q1<=Q)=False:=eq_false (by omega);have xB:(Q1=N)=False:=eq_false (by omega);have xH:(N=Q1)=False:=eq_false (by omega);have tr:(Q1=N1)=False:=eq_false (by omega);have tz:(N1=Q1)=False:=eq_false (by omega);have tq:(Q1=N2)=False:=eq_false (by omega);have tx:(N2=Q1)=False:=eq_false (by omega);have tp:(Q1=N3)=False:=eq_false (by omega)
   have tu:(N3=Q1)=False:=eq_false (by omega);have xC:(Q1=M)=False:=eq_false (by omega);have xL:(M=Q1)=False:=eq_false (by omega)
   repeat' (first|omega|(try apply ah);simp only [go_sem,sevalprocAttr,hQ,j2,j3,j4,j5,v0,v1,v2,v3,v4,y1,y4,sw,tD,tC,tB,tA,kv,kO,ks,kL,kr,kJ,kq,kD,fO,gF,fN,gx,fM,gp,fL,gd,fI,gD,fH,gw,fG,gn,fF,gb,fB,gA,fA,gu,fy,gm,fx,ga,fp,gz,fm,gr,fk,gj,fj,fZ,fJ,fh,gK,fC,ff,gJ,cI,cL,cR,fq,e9,gI,cF,cK,cQ,cE,cH,cP,fi,e8,gH,cC,cJ,cO,cB,cG,cN,cz,cD,cM,tE,kB,kU,kz,kM,ky,kK,kx,kH,fY,gG,fX,gy,fW,gq,fV,gh,oV,oU,jK,jH,jJ,jG,jI,jF,fU,fP,gL,jL,jE,fT,fK,fR,fD,fQ,fv,PC,CI,CQ,CH,CP,CG,CO,CF,CN,xG,xR,xF,xQ,xE,xP,xD,xO,CD,CJ,xz,xK,xx,xJ,xw,xI,CE,CK,xA,xv,xU,xB,xH,tr,tz,tq,tx,tp,tu,xC,xL]|(refine ⟨aO.fn (r:=?_) rfl ?_ ?_⟩;rotate_left;assumption)|(refine ⟨c8.fn (r:=?_) rfl ?_ ?_⟩;rotate_left;assumption)|apply ag<;>(intro h_;(try simp only [h_]);revert h_)|apply And.intro|with_reducible intro h_|trivial|simp only [go_sem,ai];omega)
   all_goals
    obtain ⟨z1,z2,z3⟩:=OZ [(Q,_)] _ (by simp only [List.forall_mem_cons];exact ⟨by omega,fun _ h=>by cases h⟩);exact hK _ _ x1 z1 z2 z3
end Go.Proofs.YtjpbeacamoijhaaGreatDoor
