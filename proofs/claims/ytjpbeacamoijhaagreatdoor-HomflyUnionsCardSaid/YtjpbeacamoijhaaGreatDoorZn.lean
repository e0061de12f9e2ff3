/- Layer 20: the resolution. -/
import Derived.Test.YtjpbeacamoijhaaGreatDoorZl
import Derived.Test.YtjpbeacamoijhaaGreatDoorZm
import Derived.Shelf.Strings.BuilderK
import Derived.WalkKit
import Derived.BigCall
import Derived.Test.YtjpbeacamoijhaaGreatDoorProg
namespace Go.Proofs.YtjpbeacamoijhaaGreatDoor
open Go Go.RowKit
set_option maxRecDepth 100000
set_option maxHeartbeats 16000000
set_option linter.unusedVariables false
set_option linter.unusedSimpArgs false
def sL (l:List (Int×AV)):Prop:= ∀(n:Int) (x:AV),rq l n=some x-> ∃(k:Nat) (q:List (Int×Int)),n=k/\cM q (Hs.XE k)/\x=iy false q
theorem sL.nil:sL []:=fun n x h=>by simp [rq] at h
theorem y2k (l:List (Int×AV)) (n:Int) (v:AV) (n':Int):rq (lput l n v) n'=if n=n' then some v else rq l n':=by
 induction l with
 |nil=>
  simp only [lput,rq,List.find?_cons,List.find?_nil];by_cases h:n=n'
  ·simp [h]
  ·rw [zzI h,beq_eq_false_iff_ne.2 h]
 |cons q l ih=>
  simp only [lput];by_cases hq:q.1=n
  ·rw [zzJ hq];simp only [rq,List.find?_cons];by_cases h:n=n'
   ·simp [h]
   ·have h2: ¬q.1=n':=by rw [hq];exact h
    rw [zzI h,beq_eq_false_iff_ne.2 h,beq_eq_false_iff_ne.2 h2]
  ·rw [zzI hq];simp only [rq,List.find?_cons] at ih⊢;by_cases h:q.1=n'
   ·have: ¬n=n':=fun e=>hq (h.trans e.symm)
    simp [h,this]
   ·simp only [beq_eq_false_iff_ne.2 h];exact ih
theorem sL.put {l:List (Int×AV)} (h:sL l) {k:Nat} {q:List (Int×Int)} (hq:cM q (Hs.XE k)):sL (lput l k (iy false q)):=fun n x hx=>by
 rw [y2k] at hx;by_cases e:(k:Int)=n
 ·rw [zzJ e] at hx;cases hx;exact ⟨k,q,e.symm,hq,rfl⟩
 ·rw [zzI e] at hx;exact h n x hx
abbrev rsO:AObj:= .cells 68 (.lst [.fn 40 [.ptr 4 0, .ptr 5 0, .ptr 3 0]])
abbrev zY:AObj:= .cells 4 (.lst [.bool true])
structure HB (H:Hp) (l:List (Int×AV)):Prop where
 h5:hget H 5=some rsO
 h4:hget H 4=some zY
 h3:hget H 3=some (.cells 67 (.lst [.mp 2]))
 h2:hget H 2=some (.imap 67 l)
 lt:5<hnew H
theorem Ng: ∀(H:Hp) (i:Nat) (o:AObj),hnew (hset H i o)=hnew H
 |[],_,_=>rfl
 |(j,u)::H,i,o=>by
  simp only [hset];by_cases h:j=i
  ·rw [zzJ h,h];rfl
  ·rw [zzI h];simp only [hnew,Ng H i o]
theorem Nr {i:Nat} {H:Hp}: ∀{X:Hp},(∀q∈X,q.1≠i)->hget (X++H) i=hget H i
 |[],_=>rfl
 |(j,u)::X,h=>by
  rw [List.cons_append];simp only [hget];rw [zzI (h (j,u) (zzD ..))];exact Nr fun q hq=>h q (zzE _ hq)
theorem Nq {H:Hp}: ∀X:Hp,hnew H<=hnew (X++H)
 |[]=>zzA _
 |(j,u)::X=>by
  have:=Nq (H:=H) X
  rw [List.cons_append];simp only [hnew];omega
theorem y9j {H X:Hp} {l:List (Int×AV)} (hH:HB H l) (l':List (Int×AV)) (hX: ∀q∈X,hnew H<=q.1):HB (X++hset H 2 (.imap 67 l')) l'/\hnew H<=hnew (X++hset H 2 (.imap 67 l'))/\ ∀i,i<hnew H->i≠2->hget (X++hset H 2 (.imap 67 l')) i=hget H i:=by
 obtain ⟨k5,k4,k3,k2,kN⟩:=hH;have hn:=Nq (H:=hset H 2 (.imap 67 l')) X;rw [Ng] at hn;have hg: ∀i,i<hnew H->hget (X++hset H 2 (.imap 67 l')) i=hget (hset H 2 (.imap 67 l')) i:=fun i hi=>Nr fun q hq he=>by
  have:=hX q hq;omega
 refine ⟨⟨?_,?_,?_,?_,by omega⟩,hn,fun i hi h2=>by rw [hg i hi,kk (Ne.symm h2)]⟩
 ·rw [hg 5 kN,kk (by decide)];exact k5
 ·rw [hg 4 (by omega),kk (by decide)];exact k4
 ·rw [hg 3 (by omega),kk (by decide)];exact k3
 ·rw [hg 2 (by omega),tb k2]
theorem Tu {H H2 X:Hp} {l:List (Int×AV)} {N:Nat} (hH:HB H2 l) (hN:N<=hnew H2) (h5:5<N) (hg: ∀i,i<N->i≠2->hget H2 i=hget H i) (n1:Nat) (h1:N<=n1) (o:AObj) (hX: ∀q∈X,N<=q.1):HB (X++hset H2 n1 o) l/\N<=hnew (X++hset H2 n1 o)/\ ∀i,i<N->i≠2->hget (X++hset H2 n1 o) i=hget H i:=by
 obtain ⟨k5,k4,k3,k2,kN⟩:=hH;have hn:=Nq (H:=hset H2 n1 o) X;rw [Ng] at hn;have hs: ∀i,i<N->hget (X++hset H2 n1 o) i=hget H2 i:=fun i hi=>by
  rw [Nr fun q hq he=>by have:=hX q hq;omega,kk (by omega)]
 refine ⟨⟨?_,?_,?_,?_,by omega⟩,by omega,fun i hi h2=>by rw [hs i hi];exact hg i hi h2⟩
 ·rw [hs 5 h5];exact k5
 ·rw [hs 4 (by omega)];exact k4
 ·rw [hs 3 (by omega)];exact k3
 ·rw [hs 2 (by omega)];exact k2
theorem yt2: ∀(s m:List Int) (L:Nat),rM s m L-> ∀(p:List (Int×Int)),cM p (Hs.dO s m L)-> ∀(l:List (Int×AV)),sL l-> ∀(H:Hp),HB H l-> ∀(fr:Fr) (K:AV->Fr->Hp->Prop),
  (∀(H':Hp) (l':List (Int×AV)),sL l'->HB H' l'->hnew H<=hnew H'->(∀i,i<hnew H->i≠2->hget H' i=hget H i)->K (iy false p) fr H')->
  pS Tryz.prog 40 [dgA s m L, .ptr 4 0, .ptr 5 0, .ptr 3 0] fr H K:=by
 refine RS (fun s m L h hb p hp l hl H hH fr K hK=>?_) fun s m L c L' h hb hc oe Y0 h1 e1 h2 e2 KB uB p hp l hl H hH fr K hK=>?_
 ·obtain ⟨k5,k4,k3,k2,kN⟩:=hH;have hR:=UZ s m L (fun _=>by have:=h.len;omega);have hC:=yqz s m L;unfold resA at hR;rw [zzJ h.val] at hR hC;rw [hb] at hR;dsimp only at hR;have hs:(dr s m).length+L<=45:=by
   have h3:=FF s m;have h4:=(bV h.val).len
   have:=h.len
   have:=h.n14
   omega
  have pM:1<=(dr s m).length+L:=by
   rcases h.pos with h3|h3
   ·have:=Sp.nP (bV h.val) h3;omega
   ·omega
  obtain ⟨k,hk⟩: ∃k,L+(dr s m).length=k:=⟨_,rfl⟩;have PM:cM p (Hs.XE k):=hp.congr fun e=>by rw [Hs.sB h.val hb,hk]
  have ek:((dr s m).length:Int)+(L:Int)=k:=by omega
  rw [ek] at hC;have hB:=RO false p;have hCi:=ZS k (by omega) PM;have Cp: ∀o,hget (hset H 2 o) 4=some zY:=fun o=>by rw [kk (by decide)];exact k4
  have w4:hset H 4 zY=H:=zM k4;have FN: ∀o,hset (hset H 2 o) 4 zY=hset H 2 o:=fun o=>zM (Cp o);have hE:=fun (X:Hp) (l':List (Int×AV))=>y9j (X:=X) ⟨k5,k4,k3,k2,kN⟩ l';generalize hN:hnew H=N at*;obtain ⟨N1,uj⟩: ∃x,N+1=x:=⟨_,rfl⟩;obtain ⟨N2,ui⟩: ∃x,N1+1=x:=⟨_,rfl⟩;obtain ⟨N3,uh⟩: ∃x,N2+1=x:=⟨_,rfl⟩;obtain ⟨N4,ug⟩: ∃x,N3+1=x:=⟨_,rfl⟩;obtain ⟨N5,EN5⟩: ∃x,N4+1=x:=⟨_,rfl⟩
  have lu:(N=2)=False:=zzK (by omega);have lO:(2=N)=False:=zzK (by omega);have lr:(N=3)=False:=zzK (by omega);have lM:(3=N)=False:=zzK (by omega);have ll:(N=4)=False:=zzK (by omega);have lJ:(4=N)=False:=zzK (by omega);have lj:(N=5)=False:=zzK (by omega);have lH:(5=N)=False:=zzK (by omega);have gi:(N1=2)=False:=zzK (by omega)
  have gW:(2=N1)=False:=zzK (by omega);have gh:(N1=3)=False:=zzK (by omega);have gR:(3=N1)=False:=zzK (by omega);have gd:(N1=4)=False:=zzK (by omega);have gM:(4=N1)=False:=zzK (by omega);have gb:(N1=5)=False:=zzK (by omega);have gH:(5=N1)=False:=zzK (by omega);have fY:(N2=2)=False:=zzK (by omega)
  have gV:(2=N2)=False:=zzK (by omega);have fX:(N2=3)=False:=zzK (by omega);have gQ:(3=N2)=False:=zzK (by omega);have fW:(N2=4)=False:=zzK (by omega);have gL:(4=N2)=False:=zzK (by omega);have fV:(N2=5)=False:=zzK (by omega);have gG:(5=N2)=False:=zzK (by omega);have fQ:(N3=2)=False:=zzK (by omega)
  have gU:(2=N3)=False:=zzK (by omega);have fO:(N3=3)=False:=zzK (by omega);have gP:(3=N3)=False:=zzK (by omega);have fN:(N3=4)=False:=zzK (by omega);have gK:(4=N3)=False:=zzK (by omega);have fM:(N3=5)=False:=zzK (by omega);have gF:(5=N3)=False:=zzK (by omega);have fJ:(N4=2)=False:=zzK (by omega)
  have gT:(2=N4)=False:=zzK (by omega);have fI:(N4=3)=False:=zzK (by omega);have gO:(3=N4)=False:=zzK (by omega);have fH:(N4=4)=False:=zzK (by omega);have gJ:(4=N4)=False:=zzK (by omega);have fG:(N4=5)=False:=zzK (by omega);have gD:(5=N4)=False:=zzK (by omega);have Zm:(N5=2)=False:=zzK (by omega)
  have Zq:(2=N5)=False:=zzK (by omega);have Zl:(N5=3)=False:=zzK (by omega);have Zp:(3=N5)=False:=zzK (by omega);have Zk:(N5=4)=False:=zzK (by omega);have Zo:(4=N5)=False:=zzK (by omega);have Zj:(N5=5)=False:=zzK (by omega);have Zn:(5=N5)=False:=zzK (by omega);have fZ:(N1=N)=False:=zzK (by omega)
  have fE:(N=N1)=False:=zzK (by omega);have ig:(N1<=N)=False:=zzK (by omega);have fR:(N2=N)=False:=zzK (by omega);have fD:(N=N2)=False:=zzK (by omega);have hY:(N2<=N)=False:=zzK (by omega);have c7:(N2=N1)=False:=zzK (by omega);have da:(N1=N2)=False:=zzK (by omega);have dj:(N2<=N1)=False:=zzK (by omega)
  have fK:(N3=N)=False:=zzK (by omega);have fC:(N=N3)=False:=zzK (by omega);have gZ:(N3<=N)=False:=zzK (by omega);have cW:(N3=N1)=False:=zzK (by omega);have c9:(N1=N3)=False:=zzK (by omega);have di:(N3<=N1)=False:=zzK (by omega);have cV:(N3=N2)=False:=zzK (by omega);have cZ:(N2=N3)=False:=zzK (by omega)
  have dh:(N3<=N2)=False:=zzK (by omega);have fF:(N4=N)=False:=zzK (by omega);have fB:(N=N4)=False:=zzK (by omega);have gY:(N4<=N)=False:=zzK (by omega);have cS:(N4=N1)=False:=zzK (by omega);have c8:(N1=N4)=False:=zzK (by omega);have df:(N4<=N1)=False:=zzK (by omega);have cR:(N4=N2)=False:=zzK (by omega)
  have cY:(N2=N4)=False:=zzK (by omega);have de:(N4<=N2)=False:=zzK (by omega);have cQ:(N4=N3)=False:=zzK (by omega);have cT:(N3=N4)=False:=zzK (by omega);have db:(N4<=N3)=False:=zzK (by omega);have Zi:(N5=N)=False:=zzK (by omega);have Zh:(N=N5)=False:=zzK (by omega);have Zr:(N5<=N)=False:=zzK (by omega)
  have Rg:(N5=N1)=False:=zzK (by omega);have Rk:(N1=N5)=False:=zzK (by omega);have Rp:(N5<=N1)=False:=zzK (by omega);have Rf:(N5=N2)=False:=zzK (by omega);have Rj:(N2=N5)=False:=zzK (by omega);have Ro:(N5<=N2)=False:=zzK (by omega);have Re:(N5=N3)=False:=zzK (by omega);have Ri:(N3=N5)=False:=zzK (by omega)
  have Rn:(N5<=N3)=False:=zzK (by omega);have Rc:(N5=N4)=False:=zzK (by omega);have Rh:(N4=N5)=False:=zzK (by omega);have Rm:(N5<=N4)=False:=zzK (by omega);cases hf:rq l k with
  |none=>
   refine pS.intro [.cell 5 29] Tryz.func40 rfl rfl (by decide) (by simp [Tryz.ntmps40]) ?_;rw [Tryz.ntmps40]
   repeat' (first|omega|(try apply ah);simp only [go_sem,sevalprocAttr,hN,k2,k3,k4,k5,hf,Cp,w4,FN,uj,ui,uh,ug,lu,lO,lr,lM,ll,lJ,lj,lH,gi,gW,gh,gR,gd,gM,gb,gH,fY,gV,fX,gQ,fW,gL,fV,gG,fQ,gU,fO,gP,fN,gK,fM,gF,fJ,gT,fI,gO,fH,gJ,fG,gD,fZ,fE,ig,fR,fD,hY,c7,da,dj,fK,fC,gZ,cW,c9,di,cV,cZ,dh,fF,fB,gY,cS,c8,df,cR,cY,de,cQ,cT,db]|(refine ⟨aL.fn (r:=?_) rfl ?_ ?_⟩;rotate_left;assumption)|(refine ⟨bS.fn (r:=?_) rfl ?_ ?_⟩;rotate_left;assumption)|apply ag<;>(intro h_;(try simp only [h_]);revert h_)|apply zzL|with_reducible intro h_|trivial|simp only [go_sem,ai];omega)
   all_goals
    obtain ⟨z1,z2,z3⟩:=hE [(N4,_),(N3,_),(N2,_),(N1,_),(N,_)] (lput l k (iy false p)) (by simp only [List.forall_mem_cons];exact ⟨by omega,by omega,by omega,by omega,by omega,fun _ h=>by cases h⟩);exact hK _ _ (hl.put PM) z1 z2 z3
  |some x=>
   obtain ⟨k',q',e1,e2,rfl⟩:=hl _ _ hf;obtain rfl:k'=k:=by omega
   obtain rfl:q'=p:=e2.uniq PM;have e0:H=hset H 2 (.imap 67 l):=(zM k2).symm;refine pS.intro [.cell 5 29] Tryz.func40 rfl rfl (by decide) (by simp [Tryz.ntmps40]) ?_;rw [Tryz.ntmps40]
   repeat' (first|omega|(try apply ah);simp only [go_sem,sevalprocAttr,hN,k2,k3,k4,k5,hf,Cp,w4,FN,uj,ui,uh,ug,lu,lO,lr,lM,ll,lJ,lj,lH,gi,gW,gh,gR,gd,gM,gb,gH,fY,gV,fX,gQ,fW,gL,fV,gG,fQ,gU,fO,gP,fN,gK,fM,gF,fJ,gT,fI,gO,fH,gJ,fG,gD,fZ,fE,ig,fR,fD,hY,c7,da,dj,fK,fC,gZ,cW,c9,di,cV,cZ,dh,fF,fB,gY,cS,c8,df,cR,cY,de,cQ,cT,db]|(refine ⟨aL.fn (r:=?_) rfl ?_ ?_⟩;rotate_left;assumption)|(refine ⟨bS.fn (r:=?_) rfl ?_ ?_⟩;rotate_left;assumption)|apply ag<;>(intro h_;(try simp only [h_]);revert h_)|apply zzL|with_reducible intro h_|trivial|simp only [go_sem,ai];omega)
   all_goals
    obtain ⟨z1,z2,z3⟩:=hE [(N4,_),(N3,_),(N2,_),(N1,_),(N,_)] l (by simp only [List.forall_mem_cons];exact ⟨by omega,by omega,by omega,by omega,by omega,fun _ h=>by cases h⟩);rw [<-e0] at z1 z2 z3;exact hK _ _ hl z1 z2 z3
 ·obtain ⟨k5,k4,k3,k2,kN⟩:=hH;have hR:=UZ s m L (fun _=>by have:=h.len;omega);unfold resA at hR;rw [zzJ h.val] at hR;rw [hb] at hR;dsimp only at hR;rw [zzC,Y0] at hR;have hlen:=h.len;have ng:=h1.len;have sw:=h2.len;have v1:=bV h1.val;have v2:=bV h2.val;obtain ⟨q1,Bt⟩:=Be (Hs.e8 v1) (by omega);obtain ⟨q2,oY⟩:=Be (Hs.e8 v2) (by omega);have S1:=Hs.e8 v1
  have S2:=Hs.e8 v2;have B1:=Hs.qU v1 (by omega);have B2:=Hs.qU v2 (by omega);have B0:=Hs.qU (bV h.val) (by omega);have st:=Hs.sA h.val hc Y0 h2.val h1.val (by omega) (by omega) e1;have Cp: ∀o,hget (hset H 2 o) 4=some zY:=fun o=>by rw [kk (by decide)];exact k4
  have w4:hset H 4 zY=H:=zM k4;have FN: ∀o,hset (hset H 2 o) 4 zY=hset H 2 o:=fun o=>zM (Cp o);have hB:=RO false p;generalize hN:hnew H=N at*;obtain ⟨N1,uj⟩: ∃x,N+1=x:=⟨_,rfl⟩;obtain ⟨N2,ui⟩: ∃x,N1+1=x:=⟨_,rfl⟩;obtain ⟨N3,uh⟩: ∃x,N2+1=x:=⟨_,rfl⟩;obtain ⟨N4,ug⟩: ∃x,N3+1=x:=⟨_,rfl⟩;have lu:(N=2)=False:=zzK (by omega);have lO:(2=N)=False:=zzK (by omega)
  have lr:(N=3)=False:=zzK (by omega);have lM:(3=N)=False:=zzK (by omega);have ll:(N=4)=False:=zzK (by omega);have lJ:(4=N)=False:=zzK (by omega);have lj:(N=5)=False:=zzK (by omega);have lH:(5=N)=False:=zzK (by omega);have gi:(N1=2)=False:=zzK (by omega);have gW:(2=N1)=False:=zzK (by omega);have gh:(N1=3)=False:=zzK (by omega)
  have gR:(3=N1)=False:=zzK (by omega);have gd:(N1=4)=False:=zzK (by omega);have gM:(4=N1)=False:=zzK (by omega);have gb:(N1=5)=False:=zzK (by omega);have gH:(5=N1)=False:=zzK (by omega);have fY:(N2=2)=False:=zzK (by omega);have gV:(2=N2)=False:=zzK (by omega);have fX:(N2=3)=False:=zzK (by omega)
  have gQ:(3=N2)=False:=zzK (by omega);have fW:(N2=4)=False:=zzK (by omega);have gL:(4=N2)=False:=zzK (by omega);have fV:(N2=5)=False:=zzK (by omega);have gG:(5=N2)=False:=zzK (by omega);have fQ:(N3=2)=False:=zzK (by omega);have gU:(2=N3)=False:=zzK (by omega);have fO:(N3=3)=False:=zzK (by omega)
  have gP:(3=N3)=False:=zzK (by omega);have fN:(N3=4)=False:=zzK (by omega);have gK:(4=N3)=False:=zzK (by omega);have fM:(N3=5)=False:=zzK (by omega);have gF:(5=N3)=False:=zzK (by omega);have fJ:(N4=2)=False:=zzK (by omega);have gT:(2=N4)=False:=zzK (by omega);have fI:(N4=3)=False:=zzK (by omega)
  have gO:(3=N4)=False:=zzK (by omega);have fH:(N4=4)=False:=zzK (by omega);have gJ:(4=N4)=False:=zzK (by omega);have fG:(N4=5)=False:=zzK (by omega);have gD:(5=N4)=False:=zzK (by omega);have fZ:(N1=N)=False:=zzK (by omega);have fE:(N=N1)=False:=zzK (by omega);have ig:(N1<=N)=False:=zzK (by omega)
  have fR:(N2=N)=False:=zzK (by omega);have fD:(N=N2)=False:=zzK (by omega);have hY:(N2<=N)=False:=zzK (by omega);have c7:(N2=N1)=False:=zzK (by omega);have da:(N1=N2)=False:=zzK (by omega);have dj:(N2<=N1)=False:=zzK (by omega);have fK:(N3=N)=False:=zzK (by omega);have fC:(N=N3)=False:=zzK (by omega)
  have gZ:(N3<=N)=False:=zzK (by omega);have cW:(N3=N1)=False:=zzK (by omega);have c9:(N1=N3)=False:=zzK (by omega);have di:(N3<=N1)=False:=zzK (by omega);have cV:(N3=N2)=False:=zzK (by omega);have cZ:(N2=N3)=False:=zzK (by omega);have dh:(N3<=N2)=False:=zzK (by omega);have fF:(N4=N)=False:=zzK (by omega)
  have fB:(N=N4)=False:=zzK (by omega);have gY:(N4<=N)=False:=zzK (by omega);have cS:(N4=N1)=False:=zzK (by omega);have c8:(N1=N4)=False:=zzK (by omega);have df:(N4<=N1)=False:=zzK (by omega);have cR:(N4=N2)=False:=zzK (by omega);have cY:(N2=N4)=False:=zzK (by omega);have de:(N4<=N2)=False:=zzK (by omega)
  have cQ:(N4=N3)=False:=zzK (by omega);have cT:(N3=N4)=False:=zzK (by omega);have db:(N4<=N3)=False:=zzK (by omega);rcases oe with sU|sU
  ·have HE:=Ka q2 1 1 (oY.kL S2 (by omega)) (by decide) (by decide) (fun t ht=>by have:=oY.oc S2 ht;omega);have KZ:=Ka q1 2 0 (Bt.kL S1 (by omega)) (by decide) (by decide) (fun t ht=>by have:=Bt.oc S1 ht;omega)
   have hA:=y86 (r:=p) (N:=150) (Bt.shift (bA 2 0)) (oY.shift (bA 1 1)) ((S1.shift (a:=2) (z:=0) (M:=2) (by decide) (by decide) (by omega) (by decide)).mono (by omega)) ((S2.shift (a:=1) (z:=1) (M:=2) (by decide) (by decide) (by omega) (by decide)).mono (by omega)) (by decide) (fun e=>B1 _) (fun e=>B2 _) (hp.congr fun e=>by rw [st e,sU];rfl) (fun e=>by
    have:=B0 e
    rw [st e,sU] at this;exact this)
   rw [show (q1.map fun t=>(t.1+bA 2 0,t.2))=kv (bA 2 0) q1 from rfl,show (q2.map fun t=>(t.1+bA 1 1,t.2))=kv (bA 1 1) q2 from rfl] at hA;refine pS.intro [.cell 5 29] Tryz.func40 rfl rfl (by decide) (by simp [Tryz.ntmps40]) ?_;rw [Tryz.ntmps40]
   repeat' (first|omega|(try apply ah);simp only [go_sem,sevalprocAttr,hN,k2,k3,k4,k5,Cp,w4,FN,sU,uj,ui,uh,ug,lu,lO,lr,lM,ll,lJ,lj,lH,gi,gW,gh,gR,gd,gM,gb,gH,fY,gV,fX,gQ,fW,gL,fV,gG,fQ,gU,fO,gP,fN,gK,fM,gF,fJ,gT,fI,gO,fH,gJ,fG,gD,fZ,fE,ig,fR,fD,hY,c7,da,dj,fK,fC,gZ,cW,c9,di,cV,cZ,dh,fF,fB,gY,cS,c8,df,cR,cY,de,cQ,cT,db]|(refine ⟨aL.fn (r:=?_) rfl ?_ ?_⟩;rotate_left;assumption)|(refine ⟨bS.fn (r:=?_) rfl ?_ ?_⟩;rotate_left;assumption)|apply ag<;>(intro h_;(try simp only [h_]);revert h_)|apply zzL|with_reducible intro h_|trivial|simp only [go_sem,ai];omega)
   refine ⟨aL.inline (uB q2 oY l hl _ ?_ _ _ fun H1 l1 w1 w2 w3 w5=>?_)⟩
   ·constructor<;>(simp only [go_sem,sevalprocAttr,hN,k2,k3,k4,k5,uj,ui,uh,ug,lu,lO,lr,lM,ll,lJ,lj,lH,gi,gW,gh,gR,gd,gM,gb,gH,fY,gV,fX,gQ,fW,gL,fV,gG,fQ,gU,fO,gP,fN,gK,fM,gF,fJ,gT,fI,gO,fH,gJ,fG,gD,fZ,fE,ig,fR,fD,hY,c7,da,dj,fK,fC,gZ,cW,c9,di,cV,cZ,dh,fF,fB,gY,cS,c8,df,cR,cY,de,cQ,cT,db])
    all_goals omega
   clear uB;obtain ⟨i5,i4,i3,i2,iN⟩:=w2
   simp only [go_sem,sevalprocAttr,hN,uj,ui,uh,ug,lu,lO,lr,lM,ll,lJ,lj,lH,gi,gW,gh,gR,gd,gM,gb,gH,fY,gV,fX,gQ,fW,gL,fV,gG,fQ,gU,fO,gP,fN,gK,fM,gF,fJ,gT,fI,gO,fH,gJ,fG,gD,fZ,fE,ig,fR,fD,hY,c7,da,dj,fK,fC,gZ,cW,c9,di,cV,cZ,dh,fF,fB,gY,cS,c8,df,cR,cY,de,cQ,cT,db] at w3 w5
   have u0:=w5 N (by omega) (by omega);have u1:=w5 N1 (by omega) (by omega);have u2:=w5 N2 (by omega) (by omega);have u3:=w5 N3 (by omega) (by omega)
   simp only [go_sem,sevalprocAttr,uj,ui,uh,ug,lu,lO,lr,lM,ll,lJ,lj,lH,gi,gW,gh,gR,gd,gM,gb,gH,fY,gV,fX,gQ,fW,gL,fV,gG,fQ,gU,fO,gP,fN,gK,fM,gF,fJ,gT,fI,gO,fH,gJ,fG,gD,fZ,fE,ig,fR,fD,hY,c7,da,dj,fK,fC,gZ,cW,c9,di,cV,cZ,dh,fF,fB,gY,cS,c8,df,cR,cY,de,cQ,cT,db] at u0 u1 u2 u3
   have g1: ∀i,i<N->i≠2->hget H1 i=hget H i:=fun i hi h2=>by
    have:=w5 i (by omega) h2
    rw [this]
    repeat rw [zzI (by omega)]
   generalize hM:hnew H1=M at*;obtain ⟨M1,uk⟩: ∃x,M+1=x:=⟨_,rfl⟩;have lE:(M=2)=False:=zzK (by omega);have lS:(2=M)=False:=zzK (by omega);have lD:(M=3)=False:=zzK (by omega);have lN:(3=M)=False:=zzK (by omega);have lC:(M=4)=False:=zzK (by omega);have lL:(4=M)=False:=zzK (by omega);have lB:(M=5)=False:=zzK (by omega)
   have lI:(5=M)=False:=zzK (by omega);have gA:(M1=2)=False:=zzK (by omega);have gX:(2=M1)=False:=zzK (by omega);have gy:(M1=3)=False:=zzK (by omega);have gS:(3=M1)=False:=zzK (by omega);have gw:(M1=4)=False:=zzK (by omega);have gN:(4=M1)=False:=zzK (by omega);have gu:(M1=5)=False:=zzK (by omega)
   have gI:(5=M1)=False:=zzK (by omega);have pH:(M=N)=False:=zzK (by omega);have pG:(N=M)=False:=zzK (by omega);have j7:(M=N1)=False:=zzK (by omega);have jY:(N1=M)=False:=zzK (by omega);have j6:(M=N2)=False:=zzK (by omega);have jX:(N2=M)=False:=zzK (by omega);have jZ:(M=N3)=False:=zzK (by omega)
   have jW:(N3=M)=False:=zzK (by omega);have gq:(M1=M)=False:=zzK (by omega);have gj:(M=M1)=False:=zzK (by omega);have ij:(M1<=M)=False:=zzK (by omega);have j8:(M1=N)=False:=zzK (by omega);have jV:(N=M1)=False:=zzK (by omega);have gp:(M1=N1)=False:=zzK (by omega);have ga:(N1=M1)=False:=zzK (by omega)
   have gn:(M1=N2)=False:=zzK (by omega);have fT:(N2=M1)=False:=zzK (by omega);have gm:(M1=N3)=False:=zzK (by omega);have fL:(N3=M1)=False:=zzK (by omega)
   repeat' (first|omega|(try apply ah);simp only [go_sem,sevalprocAttr,hM,i2,i3,i4,i5,u0,u1,u2,u3,sU,uj,ui,uh,ug,lu,lO,lr,lM,ll,lJ,lj,lH,gi,gW,gh,gR,gd,gM,gb,gH,fY,gV,fX,gQ,fW,gL,fV,gG,fQ,gU,fO,gP,fN,gK,fM,gF,fJ,gT,fI,gO,fH,gJ,fG,gD,fZ,fE,ig,fR,fD,hY,c7,da,dj,fK,fC,gZ,cW,c9,di,cV,cZ,dh,fF,fB,gY,cS,c8,df,cR,cY,de,cQ,cT,db,uk,lE,lS,lD,lN,lC,lL,lB,lI,gA,gX,gy,gS,gw,gN,gu,gI,pH,pG,j7,jY,j6,jX,jZ,jW,gq,gj,ij,j8,jV,gp,ga,gn,fT,gm,fL]|(refine ⟨aL.fn (r:=?_) rfl ?_ ?_⟩;rotate_left;assumption)|(refine ⟨bS.fn (r:=?_) rfl ?_ ?_⟩;rotate_left;assumption)|apply ag<;>(intro h_;(try simp only [h_]);revert h_)|apply zzL|with_reducible intro h_|trivial|simp only [go_sem,ai];omega)
   refine ⟨aL.inline (KB q1 Bt l1 w1 _ ?_ _ _ fun H2 l2 x1 x2 x3 x5=>?_)⟩
   ·constructor<;>(simp only [go_sem,sevalprocAttr,hM,i2,i3,i4,i5,uk,lE,lS,lD,lN,lC,lL,lB,lI,gA,gX,gy,gS,gw,gN,gu,gI,pH,pG,j7,jY,j6,jX,jZ,jW,gq,gj,ij,j8,jV,gp,ga,gn,fT,gm,fL])
    all_goals omega
   clear KB;obtain ⟨j5,j4,j3,j2,jN⟩:=x2;simp only [go_sem,sevalprocAttr,hM,uk,lE,lS,lD,lN,lC,lL,lB,lI,gA,gX,gy,gS,gw,gN,gu,gI,pH,pG,j7,jY,j6,jX,jZ,jW,gq,gj,ij,j8,jV,gp,ga,gn,fT,gm,fL] at x3 x5;have v0:=x5 N (by omega) (by omega);have v1:=x5 N1 (by omega) (by omega)
   have v2:=x5 N2 (by omega) (by omega);have v3:=x5 N3 (by omega) (by omega);have v4:=x5 M (by omega) (by omega);simp only [go_sem,sevalprocAttr,uk,lE,lS,lD,lN,lC,lL,lB,lI,gA,gX,gy,gS,gw,gN,gu,gI,pH,pG,j7,jY,j6,jX,jZ,jW,gq,gj,ij,j8,jV,gp,ga,gn,fT,gm,fL,u0,u1,u2,u3] at v0 v1 v2 v3 v4
   have g2: ∀i,i<N->i≠2->hget H2 i=hget H i:=fun i hi h2=>by
    have:=x5 i (by omega) h2
    rw [this]
    repeat rw [zzI (by omega)]
    exact g1 i hi h2
   have y4:hset H2 4 zY=H2:=zM j4;have y1: ∀o,hget (hset H2 N1 o) N1=some o:=fun o=>tb v1;have QL:=fun X o=>Tu (X:=X) ⟨j5,j4,j3,j2,jN⟩ (N:=N) (by omega) (by omega) g2 N1 (by omega) o;generalize hQ:hnew H2=Q at*;obtain ⟨Q1,Rq⟩: ∃x,Q+1=x:=⟨_,rfl⟩;have Dy:(Q=2)=False:=zzK (by omega);have DH:(2=Q)=False:=zzK (by omega);have Dx:(Q=3)=False:=zzK (by omega)
   have DG:(3=Q)=False:=zzK (by omega);have Dw:(Q=4)=False:=zzK (by omega);have DF:(4=Q)=False:=zzK (by omega);have Dv:(Q=5)=False:=zzK (by omega);have DE:(5=Q)=False:=zzK (by omega);have ym:(Q1=2)=False:=zzK (by omega);have yB:(2=Q1)=False:=zzK (by omega);have yl:(Q1=3)=False:=zzK (by omega);have yA:(3=Q1)=False:=zzK (by omega)
   have yk:(Q1=4)=False:=zzK (by omega);have yz:(4=Q1)=False:=zzK (by omega);have yj:(Q1=5)=False:=zzK (by omega);have yw:(5=Q1)=False:=zzK (by omega);have Dt:(Q=N)=False:=zzK (by omega);have Dz:(N=Q)=False:=zzK (by omega);have yf:(Q=N1)=False:=zzK (by omega);have yr:(N1=Q)=False:=zzK (by omega)
   have ye:(Q=N2)=False:=zzK (by omega);have yq:(N2=Q)=False:=zzK (by omega);have yd:(Q=N3)=False:=zzK (by omega);have yp:(N3=Q)=False:=zzK (by omega);have Du:(Q=M)=False:=zzK (by omega);have DA:(M=Q)=False:=zzK (by omega);have yg:(Q1=Q)=False:=zzK (by omega);have yc:(Q=Q1)=False:=zzK (by omega)
   have yE:(Q1<=Q)=False:=zzK (by omega);have yh:(Q1=N)=False:=zzK (by omega);have yn:(N=Q1)=False:=zzK (by omega);have uc:(Q1=N1)=False:=zzK (by omega);have uf:(N1=Q1)=False:=zzK (by omega);have tZ:(Q1=N2)=False:=zzK (by omega);have ue:(N2=Q1)=False:=zzK (by omega);have tY:(Q1=N3)=False:=zzK (by omega)
   have ud:(N3=Q1)=False:=zzK (by omega);have yi:(Q1=M)=False:=zzK (by omega);have yt:(M=Q1)=False:=zzK (by omega)
   repeat' (first|omega|(try apply ah);simp only [go_sem,sevalprocAttr,hQ,j2,j3,j4,j5,v0,v1,v2,v3,v4,y1,y4,sU,uj,ui,uh,ug,lu,lO,lr,lM,ll,lJ,lj,lH,gi,gW,gh,gR,gd,gM,gb,gH,fY,gV,fX,gQ,fW,gL,fV,gG,fQ,gU,fO,gP,fN,gK,fM,gF,fJ,gT,fI,gO,fH,gJ,fG,gD,fZ,fE,ig,fR,fD,hY,c7,da,dj,fK,fC,gZ,cW,c9,di,cV,cZ,dh,fF,fB,gY,cS,c8,df,cR,cY,de,cQ,cT,db,uk,lE,lS,lD,lN,lC,lL,lB,lI,gA,gX,gy,gS,gw,gN,gu,gI,pH,pG,j7,jY,j6,jX,jZ,jW,gq,gj,ij,j8,jV,gp,ga,gn,fT,gm,fL,Rq,Dy,DH,Dx,DG,Dw,DF,Dv,DE,ym,yB,yl,yA,yk,yz,yj,yw,Dt,Dz,yf,yr,ye,yq,yd,yp,Du,DA,yg,yc,yE,yh,yn,uc,uf,tZ,ue,tY,ud,yi,yt]|(refine ⟨aL.fn (r:=?_) rfl ?_ ?_⟩;rotate_left;assumption)|(refine ⟨bS.fn (r:=?_) rfl ?_ ?_⟩;rotate_left;assumption)|apply ag<;>(intro h_;(try simp only [h_]);revert h_)|apply zzL|with_reducible intro h_|trivial|simp only [go_sem,ai];omega)
   all_goals
    obtain ⟨z1,z2,z3⟩:=QL [(Q,_)] _ (by simp only [List.forall_mem_cons];exact ⟨by omega,fun _ h=>by cases h⟩);exact hK _ _ x1 z1 z2 z3
  ·have HE:=Ka q2 (-1) 1 (oY.kL S2 (by omega)) (by decide) (by decide) (fun t ht=>by have:=oY.oc S2 ht;omega);have KZ:=Ka q1 (-2) 0 (Bt.kL S1 (by omega)) (by decide) (by decide) (fun t ht=>by have:=Bt.oc S1 ht;omega)
   have hA:=RY (r:=p) (N:=150) (Bt.shift (bA (-2) 0)) (oY.shift (bA (-1) 1)) ((S1.shift (a:=(-2)) (z:=0) (M:=2) (by decide) (by decide) (by omega) (by decide)).mono (by omega)) ((S2.shift (a:=(-1)) (z:=1) (M:=2) (by decide) (by decide) (by omega) (by decide)).mono (by omega)) (by decide) (fun e=>B1 _) (fun e=>B2 _) (hp.congr fun e=>by rw [st e,sU];rfl) (fun e=>by
    have:=B0 e
    rw [st e,sU] at this;exact this)
   rw [show (q1.map fun t=>(t.1+bA (-2) 0,t.2))=kv (bA (-2) 0) q1 from rfl,show (q2.map fun t=>(t.1+bA (-1) 1,t.2))=kv (bA (-1) 1) q2 from rfl] at hA;refine pS.intro [.cell 5 29] Tryz.func40 rfl rfl (by decide) (by simp [Tryz.ntmps40]) ?_;rw [Tryz.ntmps40]
   repeat' (first|omega|(try apply ah);simp only [go_sem,sevalprocAttr,hN,k2,k3,k4,k5,Cp,w4,FN,sU,uj,ui,uh,ug,lu,lO,lr,lM,ll,lJ,lj,lH,gi,gW,gh,gR,gd,gM,gb,gH,fY,gV,fX,gQ,fW,gL,fV,gG,fQ,gU,fO,gP,fN,gK,fM,gF,fJ,gT,fI,gO,fH,gJ,fG,gD,fZ,fE,ig,fR,fD,hY,c7,da,dj,fK,fC,gZ,cW,c9,di,cV,cZ,dh,fF,fB,gY,cS,c8,df,cR,cY,de,cQ,cT,db]|(refine ⟨aL.fn (r:=?_) rfl ?_ ?_⟩;rotate_left;assumption)|(refine ⟨bS.fn (r:=?_) rfl ?_ ?_⟩;rotate_left;assumption)|apply ag<;>(intro h_;(try simp only [h_]);revert h_)|apply zzL|with_reducible intro h_|trivial|simp only [go_sem,ai];omega)
   refine ⟨aL.inline (uB q2 oY l hl _ ?_ _ _ fun H1 l1 w1 w2 w3 w5=>?_)⟩
   ·constructor<;>(simp only [go_sem,sevalprocAttr,hN,k2,k3,k4,k5,uj,ui,uh,ug,lu,lO,lr,lM,ll,lJ,lj,lH,gi,gW,gh,gR,gd,gM,gb,gH,fY,gV,fX,gQ,fW,gL,fV,gG,fQ,gU,fO,gP,fN,gK,fM,gF,fJ,gT,fI,gO,fH,gJ,fG,gD,fZ,fE,ig,fR,fD,hY,c7,da,dj,fK,fC,gZ,cW,c9,di,cV,cZ,dh,fF,fB,gY,cS,c8,df,cR,cY,de,cQ,cT,db])
    all_goals omega
   clear uB;obtain ⟨i5,i4,i3,i2,iN⟩:=w2
   simp only [go_sem,sevalprocAttr,hN,uj,ui,uh,ug,lu,lO,lr,lM,ll,lJ,lj,lH,gi,gW,gh,gR,gd,gM,gb,gH,fY,gV,fX,gQ,fW,gL,fV,gG,fQ,gU,fO,gP,fN,gK,fM,gF,fJ,gT,fI,gO,fH,gJ,fG,gD,fZ,fE,ig,fR,fD,hY,c7,da,dj,fK,fC,gZ,cW,c9,di,cV,cZ,dh,fF,fB,gY,cS,c8,df,cR,cY,de,cQ,cT,db] at w3 w5
   have u0:=w5 N (by omega) (by omega);have u1:=w5 N1 (by omega) (by omega);have u2:=w5 N2 (by omega) (by omega);have u3:=w5 N3 (by omega) (by omega)
   simp only [go_sem,sevalprocAttr,uj,ui,uh,ug,lu,lO,lr,lM,ll,lJ,lj,lH,gi,gW,gh,gR,gd,gM,gb,gH,fY,gV,fX,gQ,fW,gL,fV,gG,fQ,gU,fO,gP,fN,gK,fM,gF,fJ,gT,fI,gO,fH,gJ,fG,gD,fZ,fE,ig,fR,fD,hY,c7,da,dj,fK,fC,gZ,cW,c9,di,cV,cZ,dh,fF,fB,gY,cS,c8,df,cR,cY,de,cQ,cT,db] at u0 u1 u2 u3
   have g1: ∀i,i<N->i≠2->hget H1 i=hget H i:=fun i hi h2=>by
    have:=w5 i (by omega) h2
    rw [this]
    repeat rw [zzI (by omega)]
   generalize hM:hnew H1=M at*;obtain ⟨M1,uk⟩: ∃x,M+1=x:=⟨_,rfl⟩;have lE:(M=2)=False:=zzK (by omega);have lS:(2=M)=False:=zzK (by omega);have lD:(M=3)=False:=zzK (by omega);have lN:(3=M)=False:=zzK (by omega);have lC:(M=4)=False:=zzK (by omega);have lL:(4=M)=False:=zzK (by omega);have lB:(M=5)=False:=zzK (by omega)
   have lI:(5=M)=False:=zzK (by omega);have gA:(M1=2)=False:=zzK (by omega);have gX:(2=M1)=False:=zzK (by omega);have gy:(M1=3)=False:=zzK (by omega);have gS:(3=M1)=False:=zzK (by omega);have gw:(M1=4)=False:=zzK (by omega);have gN:(4=M1)=False:=zzK (by omega);have gu:(M1=5)=False:=zzK (by omega)
   have gI:(5=M1)=False:=zzK (by omega);have pH:(M=N)=False:=zzK (by omega);have pG:(N=M)=False:=zzK (by omega);have j7:(M=N1)=False:=zzK (by omega);have jY:(N1=M)=False:=zzK (by omega);have j6:(M=N2)=False:=zzK (by omega);have jX:(N2=M)=False:=zzK (by omega);have jZ:(M=N3)=False:=zzK (by omega)
   have jW:(N3=M)=False:=zzK (by omega);have gq:(M1=M)=False:=zzK (by omega);have gj:(M=M1)=False:=zzK (by omega);have ij:(M1<=M)=False:=zzK (by omega);have j8:(M1=N)=False:=zzK (by omega);have jV:(N=M1)=False:=zzK (by omega);have gp:(M1=N1)=False:=zzK (by omega);have ga:(N1=M1)=False:=zzK (by omega)
   have gn:(M1=N2)=False:=zzK (by omega);have fT:(N2=M1)=False:=zzK (by omega);have gm:(M1=N3)=False:=zzK (by omega);have fL:(N3=M1)=False:=zzK (by omega)
   repeat' (first|omega|(try apply ah);simp only [go_sem,sevalprocAttr,hM,i2,i3,i4,i5,u0,u1,u2,u3,sU,uj,ui,uh,ug,lu,lO,lr,lM,ll,lJ,lj,lH,gi,gW,gh,gR,gd,gM,gb,gH,fY,gV,fX,gQ,fW,gL,fV,gG,fQ,gU,fO,gP,fN,gK,fM,gF,fJ,gT,fI,gO,fH,gJ,fG,gD,fZ,fE,ig,fR,fD,hY,c7,da,dj,fK,fC,gZ,cW,c9,di,cV,cZ,dh,fF,fB,gY,cS,c8,df,cR,cY,de,cQ,cT,db,uk,lE,lS,lD,lN,lC,lL,lB,lI,gA,gX,gy,gS,gw,gN,gu,gI,pH,pG,j7,jY,j6,jX,jZ,jW,gq,gj,ij,j8,jV,gp,ga,gn,fT,gm,fL]|(refine ⟨aL.fn (r:=?_) rfl ?_ ?_⟩;rotate_left;assumption)|(refine ⟨bS.fn (r:=?_) rfl ?_ ?_⟩;rotate_left;assumption)|apply ag<;>(intro h_;(try simp only [h_]);revert h_)|apply zzL|with_reducible intro h_|trivial|simp only [go_sem,ai];omega)
   refine ⟨aL.inline (KB q1 Bt l1 w1 _ ?_ _ _ fun H2 l2 x1 x2 x3 x5=>?_)⟩
   ·constructor<;>(simp only [go_sem,sevalprocAttr,hM,i2,i3,i4,i5,uk,lE,lS,lD,lN,lC,lL,lB,lI,gA,gX,gy,gS,gw,gN,gu,gI,pH,pG,j7,jY,j6,jX,jZ,jW,gq,gj,ij,j8,jV,gp,ga,gn,fT,gm,fL])
    all_goals omega
   clear KB;obtain ⟨j5,j4,j3,j2,jN⟩:=x2;simp only [go_sem,sevalprocAttr,hM,uk,lE,lS,lD,lN,lC,lL,lB,lI,gA,gX,gy,gS,gw,gN,gu,gI,pH,pG,j7,jY,j6,jX,jZ,jW,gq,gj,ij,j8,jV,gp,ga,gn,fT,gm,fL] at x3 x5;have v0:=x5 N (by omega) (by omega);have v1:=x5 N1 (by omega) (by omega)
   have v2:=x5 N2 (by omega) (by omega);have v3:=x5 N3 (by omega) (by omega);have v4:=x5 M (by omega) (by omega);simp only [go_sem,sevalprocAttr,uk,lE,lS,lD,lN,lC,lL,lB,lI,gA,gX,gy,gS,gw,gN,gu,gI,pH,pG,j7,jY,j6,jX,jZ,jW,gq,gj,ij,j8,jV,gp,ga,gn,fT,gm,fL,u0,u1,u2,u3] at v0 v1 v2 v3 v4
   have g2: ∀i,i<N->i≠2->hget H2 i=hget H i:=fun i hi h2=>by
    have:=x5 i (by omega) h2
    rw [this]
    repeat rw [zzI (by omega)]
    exact g1 i hi h2
   have y4:hset H2 4 zY=H2:=zM j4;have y1: ∀o,hget (hset H2 N1 o) N1=some o:=fun o=>tb v1;have QL:=fun X o=>Tu (X:=X) ⟨j5,j4,j3,j2,jN⟩ (N:=N) (by omega) (by omega) g2 N1 (by omega) o;generalize hQ:hnew H2=Q at*;obtain ⟨Q1,Rq⟩: ∃x,Q+1=x:=⟨_,rfl⟩;have Dy:(Q=2)=False:=zzK (by omega);have DH:(2=Q)=False:=zzK (by omega);have Dx:(Q=3)=False:=zzK (by omega)
   have DG:(3=Q)=False:=zzK (by omega);have Dw:(Q=4)=False:=zzK (by omega);have DF:(4=Q)=False:=zzK (by omega);have Dv:(Q=5)=False:=zzK (by omega);have DE:(5=Q)=False:=zzK (by omega);have ym:(Q1=2)=False:=zzK (by omega);have yB:(2=Q1)=False:=zzK (by omega);have yl:(Q1=3)=False:=zzK (by omega);have yA:(3=Q1)=False:=zzK (by omega)
   have yk:(Q1=4)=False:=zzK (by omega);have yz:(4=Q1)=False:=zzK (by omega);have yj:(Q1=5)=False:=zzK (by omega);have yw:(5=Q1)=False:=zzK (by omega);have Dt:(Q=N)=False:=zzK (by omega);have Dz:(N=Q)=False:=zzK (by omega);have yf:(Q=N1)=False:=zzK (by omega);have yr:(N1=Q)=False:=zzK (by omega)
   have ye:(Q=N2)=False:=zzK (by omega);have yq:(N2=Q)=False:=zzK (by omega);have yd:(Q=N3)=False:=zzK (by omega);have yp:(N3=Q)=False:=zzK (by omega);have Du:(Q=M)=False:=zzK (by omega);have DA:(M=Q)=False:=zzK (by omega);have yg:(Q1=Q)=False:=zzK (by omega);have yc:(Q=Q1)=False:=zzK (by omega)
   have yE:(Q1<=Q)=False:=zzK (by omega);have yh:(Q1=N)=False:=zzK (by omega);have yn:(N=Q1)=False:=zzK (by omega);have uc:(Q1=N1)=False:=zzK (by omega);have uf:(N1=Q1)=False:=zzK (by omega);have tZ:(Q1=N2)=False:=zzK (by omega);have ue:(N2=Q1)=False:=zzK (by omega);have tY:(Q1=N3)=False:=zzK (by omega)
   have ud:(N3=Q1)=False:=zzK (by omega);have yi:(Q1=M)=False:=zzK (by omega);have yt:(M=Q1)=False:=zzK (by omega)
   repeat' (first|omega|(try apply ah);simp only [go_sem,sevalprocAttr,hQ,j2,j3,j4,j5,v0,v1,v2,v3,v4,y1,y4,sU,uj,ui,uh,ug,lu,lO,lr,lM,ll,lJ,lj,lH,gi,gW,gh,gR,gd,gM,gb,gH,fY,gV,fX,gQ,fW,gL,fV,gG,fQ,gU,fO,gP,fN,gK,fM,gF,fJ,gT,fI,gO,fH,gJ,fG,gD,fZ,fE,ig,fR,fD,hY,c7,da,dj,fK,fC,gZ,cW,c9,di,cV,cZ,dh,fF,fB,gY,cS,c8,df,cR,cY,de,cQ,cT,db,uk,lE,lS,lD,lN,lC,lL,lB,lI,gA,gX,gy,gS,gw,gN,gu,gI,pH,pG,j7,jY,j6,jX,jZ,jW,gq,gj,ij,j8,jV,gp,ga,gn,fT,gm,fL,Rq,Dy,DH,Dx,DG,Dw,DF,Dv,DE,ym,yB,yl,yA,yk,yz,yj,yw,Dt,Dz,yf,yr,ye,yq,yd,yp,Du,DA,yg,yc,yE,yh,yn,uc,uf,tZ,ue,tY,ud,yi,yt]|(refine ⟨aL.fn (r:=?_) rfl ?_ ?_⟩;rotate_left;assumption)|(refine ⟨bS.fn (r:=?_) rfl ?_ ?_⟩;rotate_left;assumption)|apply ag<;>(intro h_;(try simp only [h_]);revert h_)|apply zzL|with_reducible intro h_|trivial|simp only [go_sem,ai];omega)
   all_goals
    obtain ⟨z1,z2,z3⟩:=QL [(Q,_)] _ (by simp only [List.forall_mem_cons];exact ⟨by omega,fun _ h=>by cases h⟩);exact hK _ _ x1 z1 z2 z3
theorem Nf {s m:List Int} {L:Nat} (h:rM s m L) {p:List (Int×Int)} (hp:cM p (Hs.dO s m L)):Fn Tryz.prog 10 [dgA s m L] (.tup [iy false p,I 0]):=by
 have hV:=vd s m L;rw [h.val] at hV;have hn:=h.n14;have bn:decide ((14:Int)<s.length)=false:=by rw [decide_eq_false_iff_not];omega
 have hr:=yt2 s m L h p hp [] sL.nil;by_cases h0:s.length=0
 ·have oj:((s.length:Int)==0)=true:=by rw [h0];rfl
  have bL:((L:Int)==0)=false:=by
   rw [zzU];rcases h.pos with h2|h2<;>omega
  refine Fn.aG [.cell 2 29, .tmp 3] Tryz.func10 rfl rfl (by decide) (by simp [Tryz.ntmps10]) ?_;rw [Tryz.ntmps10]
  repeat' (first|omega|(try apply ah);simp only [go_sem,sevalprocAttr,oj,bL,bn]|(refine ⟨aL.fn (r:=?_) rfl ?_ ?_⟩;rotate_left;assumption)|(refine ⟨bS.fn (r:=?_) rfl ?_ ?_⟩;rotate_left;assumption)|apply ag<;>(intro h_;(try simp only [h_]);revert h_)|apply zzL|with_reducible intro h_|trivial|simp only [go_sem,ai];omega)
  refine ⟨aL.inline (hr _ ?_ _ _ fun H' l' w1 w2 w3 w5=>?_)⟩
  ·constructor<;>(simp only [go_sem,sevalprocAttr])
  obtain ⟨i5,i4,i3,i2,iN⟩:=w2;simp only [go_sem,sevalprocAttr] at w3 w5;have u1:=w5 1 (by omega) (by omega);simp only [go_sem,sevalprocAttr] at u1;have y1: ∀o,hget (hset H' 1 o) 1=some o:=fun o=>tb u1;generalize hM:hnew H'=M at*;obtain ⟨M1,uk⟩: ∃x,M+1=x:=⟨_,rfl⟩;have lE:(M=2)=False:=zzK (by omega);have lS:(2=M)=False:=zzK (by omega);have lD:(M=3)=False:=zzK (by omega)
  have lN:(3=M)=False:=zzK (by omega);have lC:(M=4)=False:=zzK (by omega);have lL:(4=M)=False:=zzK (by omega);have lB:(M=5)=False:=zzK (by omega);have lI:(5=M)=False:=zzK (by omega);have gA:(M1=2)=False:=zzK (by omega);have gX:(2=M1)=False:=zzK (by omega);have gy:(M1=3)=False:=zzK (by omega);have gS:(3=M1)=False:=zzK (by omega)
  have gw:(M1=4)=False:=zzK (by omega);have gN:(4=M1)=False:=zzK (by omega);have gu:(M1=5)=False:=zzK (by omega);have gI:(5=M1)=False:=zzK (by omega);have gq:(M1=M)=False:=zzK (by omega);have gj:(M=M1)=False:=zzK (by omega);have ij:(M1<=M)=False:=zzK (by omega);have DC:(M=0)=False:=zzK (by omega)
  have DJ:(0=M)=False:=zzK (by omega);have DB:(M=1)=False:=zzK (by omega);have DI:(1=M)=False:=zzK (by omega);have yv:(M1=0)=False:=zzK (by omega);have yD:(0=M1)=False:=zzK (by omega);have yu:(M1=1)=False:=zzK (by omega);have yC:(1=M1)=False:=zzK (by omega)
  repeat' (first|omega|(try apply ah);simp only [go_sem,sevalprocAttr,hM,i2,i3,i4,i5,u1,y1,uk,lE,lS,lD,lN,lC,lL,lB,lI,gA,gX,gy,gS,gw,gN,gu,gI,gq,gj,ij,DC,DJ,DB,DI,yv,yD,yu,yC]|(refine ⟨aL.fn (r:=?_) rfl ?_ ?_⟩;rotate_left;assumption)|(refine ⟨bS.fn (r:=?_) rfl ?_ ?_⟩;rotate_left;assumption)|apply ag<;>(intro h_;(try simp only [h_]);revert h_)|apply zzL|with_reducible intro h_|trivial|simp only [go_sem,ai];omega)
  all_goals exact bE.refl _
 ·have oj:((s.length:Int)==0)=false:=by rw [zzU];omega
  refine Fn.aG [.cell 2 29, .tmp 3] Tryz.func10 rfl rfl (by decide) (by simp [Tryz.ntmps10]) ?_;rw [Tryz.ntmps10]
  repeat' (first|omega|(try apply ah);simp only [go_sem,sevalprocAttr,oj,bn]|(refine ⟨aL.fn (r:=?_) rfl ?_ ?_⟩;rotate_left;assumption)|(refine ⟨bS.fn (r:=?_) rfl ?_ ?_⟩;rotate_left;assumption)|apply ag<;>(intro h_;(try simp only [h_]);revert h_)|apply zzL|with_reducible intro h_|trivial|simp only [go_sem,ai];omega)
  refine ⟨aL.inline (hr _ ?_ _ _ fun H' l' w1 w2 w3 w5=>?_)⟩
  ·constructor<;>(simp only [go_sem,sevalprocAttr])
  obtain ⟨i5,i4,i3,i2,iN⟩:=w2;simp only [go_sem,sevalprocAttr] at w3 w5;have u1:=w5 1 (by omega) (by omega);simp only [go_sem,sevalprocAttr] at u1;have y1: ∀o,hget (hset H' 1 o) 1=some o:=fun o=>tb u1;generalize hM:hnew H'=M at*;obtain ⟨M1,uk⟩: ∃x,M+1=x:=⟨_,rfl⟩;have lE:(M=2)=False:=zzK (by omega);have lS:(2=M)=False:=zzK (by omega);have lD:(M=3)=False:=zzK (by omega)
  have lN:(3=M)=False:=zzK (by omega);have lC:(M=4)=False:=zzK (by omega);have lL:(4=M)=False:=zzK (by omega);have lB:(M=5)=False:=zzK (by omega);have lI:(5=M)=False:=zzK (by omega);have gA:(M1=2)=False:=zzK (by omega);have gX:(2=M1)=False:=zzK (by omega);have gy:(M1=3)=False:=zzK (by omega);have gS:(3=M1)=False:=zzK (by omega)
  have gw:(M1=4)=False:=zzK (by omega);have gN:(4=M1)=False:=zzK (by omega);have gu:(M1=5)=False:=zzK (by omega);have gI:(5=M1)=False:=zzK (by omega);have gq:(M1=M)=False:=zzK (by omega);have gj:(M=M1)=False:=zzK (by omega);have ij:(M1<=M)=False:=zzK (by omega);have DC:(M=0)=False:=zzK (by omega)
  have DJ:(0=M)=False:=zzK (by omega);have DB:(M=1)=False:=zzK (by omega);have DI:(1=M)=False:=zzK (by omega);have yv:(M1=0)=False:=zzK (by omega);have yD:(0=M1)=False:=zzK (by omega);have yu:(M1=1)=False:=zzK (by omega);have yC:(1=M1)=False:=zzK (by omega)
  repeat' (first|omega|(try apply ah);simp only [go_sem,sevalprocAttr,hM,i2,i3,i4,i5,u1,y1,uk,lE,lS,lD,lN,lC,lL,lB,lI,gA,gX,gy,gS,gw,gN,gu,gI,gq,gj,ij,DC,DJ,DB,DI,yv,yD,yu,yC]|(refine ⟨aL.fn (r:=?_) rfl ?_ ?_⟩;rotate_left;assumption)|(refine ⟨bS.fn (r:=?_) rfl ?_ ?_⟩;rotate_left;assumption)|apply ag<;>(intro h_;(try simp only [h_]);revert h_)|apply zzL|with_reducible intro h_|trivial|simp only [go_sem,ai];omega)
  all_goals exact bE.refl _
end Go.Proofs.YtjpbeacamoijhaaGreatDoor
namespace Go.Proofs.YtjpbeacamoijhaaGreatDoor
set_option linter.unusedSimpArgs false
set_option linter.unusedVariables false
def insR:List (Int×Int)->Int×Int->List (Int×Int)
 |[],t=>[t]
 |u::l,t=>if u.1<t.1 then u::insR l t else if u.1=t.1 then (u.1,u.2+t.2)::l else t::u::l
theorem RN (e:Int): ∀(l:List (Int×Int)) (t:Int×Int),cfL (insR l t) e=cfL l e+if t.1=e then t.2 else 0
 |[],t=>by simp only [insR,cfL];omega
 |u::l,t=>by
  simp only [insR]
  split
  ·simp only [cfL];rw [RN e l t];omega
  ·split
   ·rename_i he
    simp only [cfL];by_cases h:t.1=e
    ·rw [zzJ (by omega),zzJ (by omega),zzJ h];omega
    ·rw [zzI (by omega),zzI (by omega),zzI h];omega
   ·simp only [cfL];omega
theorem RM {u:Int×Int}: ∀{l:List (Int×Int)} {t:Int×Int},u∈insR l t->u∈l\/u.1=t.1
 |[],t,h=>by simp only [insR,zzM] at h;exact .inr (by rw [h])
 |v::l,t,h=>by
  simp only [insR] at h
  split at h
  ·rcases List.mem_cons.1 h with rfl|h
   ·exact .inl (zzD ..)
   ·exact (RM h).imp (zzE _) id
  ·split at h
   ·rename_i he
    rcases List.mem_cons.1 h with rfl|h
    ·exact .inr he
    ·exact .inl (zzE _ h)
   ·rcases List.mem_cons.1 h with rfl|h
    ·exact .inr rfl
    ·exact .inl h
theorem RK: ∀{l:List (Int×Int)} (t:Int×Int),(l.Pairwise fun a b=>a.1<b.1)->(insR l t).Pairwise fun a b=>a.1<b.1
 |[],t,_=>by simp [insR]
 |u::l,t,h=>by
  have h':=List.pairwise_cons.1 h;simp only [insR]
  split
  ·rename_i hu
   refine List.pairwise_cons.2 ⟨fun v hv=>?_,RK t h'.2⟩;rcases RM hv with hv|hv
   ·exact h'.1 v hv
   ·omega
  ·split
   ·exact List.pairwise_cons.2 ⟨h'.1,h'.2⟩
   ·refine List.pairwise_cons.2 ⟨fun v hv=>?_,h⟩;rcases List.mem_cons.1 hv with rfl|hv
    ·omega
    ·have:=h'.1 v hv;omega
def vg:List (Int×Int)->List (Int×Int)
 |l=>l.foldl insR []
theorem Tt (Q:List (Int×Int)->List (Int×Int)->Prop) (h0:Q [] []) (hs: ∀l r t,Q l r->Q (l++[t]) (insR r t)) (l:List (Int×Int)):Q l (vg l):=by
 have gen: ∀(l a r:List (Int×Int)),Q a r->Q (a++l) (l.foldl insR r):=by
  intro l
  induction l with
  |nil=>intro a r h;simpa using h
  |cons t l ih=>intro a r h;have:=ih (a++[t]) (insR r t) (hs a r t h);simpa using this
 exact gen l [] [] h0
theorem y5m (l:List (Int×Int)) (e:Int):cfL (vg l) e=cfL l e:=by
 refine Tt (fun l r=>cfL r e=cfL l e) rfl (fun l r t h=>?_) l;rw [RN,h,JG];simp only [cfL];omega
theorem y5n (l:List (Int×Int)):(vg l).Pairwise fun a b=>a.1<b.1:=Tt (fun _ r=>r.Pairwise fun a b=>a.1<b.1) .nil (fun _ _ t h=>RK t h) l
theorem RJ {l:List (Int×Int)} {f:Int->Int} (h: ∀e,cfL l e=f e):cM (nz (vg l)) f:=⟨Ol (y5n l),fun e=>by rw [On,y5m,h]⟩
open Sp
set_option maxRecDepth 100000
def Cm (d c:Int) (p:List (Int×Int)):List (Int×Int):=p.map fun t=>(t.1+d,c*t.2)
theorem E9 (d c:Int): ∀(p:List (Int×Int)) (e:Int),cfL (Cm d c p) e=c*cfL p (e-d)
 |[],_=>by simp [Cm,cfL]
 |t::p,e=>by
  have ih:=E9 d c p e;simp only [Cm,List.map_cons,cfL] at ih⊢;rw [ih,Int.mul_add];by_cases h:t.1+d=e
  ·rw [zzJ h,zzJ (by omega)]
  ·rw [zzI h,zzI (by omega)];simp
def Kt:Nat->List (Int×Int)
 |0=>[(0,1)]
 |n+1=>nz (vg (Cm (bA (-1) (-1)) 1 (Kt n)++Cm (bA 1 (-1)) (-1) (Kt n)))
theorem Wm: ∀n:Nat,n<=900->cM (Kt n) (Hs.XE (n+1))
 |0,_=>Hs.Iw
 |n+1,h=>by
  have ih:=Wm n (by omega);refine RJ fun e=>?_;rw [JG,E9,E9,ih.cf,ih.cf,Hs.Iv n (by omega)];omega
def hmT:Nat->List Int->List Int->Nat->Option (List (Int×Int))
 |0,_,_,_=>none
 |f+1,s,m,l=>match nJ s m with
  |none=>some (Kt (l+(dr s m).length-1))
  |some c=>match hmT f (kf s c.toNat) (jA s m c.toNat) l,hmT f (dz s c.toNat) (fk s m c.toNat) (im s m c.toNat l).toNat with
   |some p,some q=>some (nz (vg (Cm (bA (2*s.getD c.toNat 0) 0) 1 p++Cm (bA (s.getD c.toNat 0) 1) (s.getD c.toNat 0) q)))
   |_,_=>none
theorem Wl: ∀s m l,rM s m l-> ∀f p,hmT f s m l=some p->cM p (Hs.dO s m l):=by
 refine RS (fun s m l h hb f p hp=>?_) fun s m l c l' h hb hc oe qA h1 e1 h2 e2 i1 i2 f p hp=>?_
 ·cases f with
  |zero=>cases hp
  |succ f=>
   unfold hmT at hp;rw [hb] at hp;cases hp;have h3:=FF s m;have h4:=(bV h.val).len;have h5:=h.len;have h6:1<=l+(dr s m).length:=by
    rcases h.pos with h3|h3
    ·have:=nP (bV h.val) h3;omega
    ·omega
   have:=Wm (l+(dr s m).length-1) (by omega)
   rw [Nat.sub_add_cancel h6] at this;exact this.congr fun e=>(Hs.sB h.val hb e).symm
 ·cases f with
  |zero=>cases hp
  |succ f=>
   unfold hmT at hp;rw [hb] at hp;dsimp only at hp;rw [zzC,qA,zzC] at hp
   split at hp
   ·rename_i p1 q1 g1 g2
    cases hp;have j1:=i1 f p1 g1;have j2:=i2 f q1 g2;have hlen:=h.len;have sw:=h2.len;refine RJ fun e=>?_;rw [JG,E9,E9,j1.cf,j2.cf,Hs.sA h.val hc qA h2.val h1.val (by omega) (by omega) e1,Int.one_mul]
   ·cases hp
theorem y9k:cM [(bA 2 0,2),(bA 2 2,1),(bA 4 0,-1)] (Hs.dO [1,1,1] [9,4,7,10,1,8,11,2,5,0,3,6] (0:Nat)):=
 Wl _ _ _ ⟨by decide+kernel,by decide,by decide,by decide⟩ 20 _ (by decide+kernel)
theorem NR:cM [(bA (-1) (-1),1),(bA 1 (-1),-1)] (Hs.dO [] [] (2:Nat)):=
 Wl _ _ _ ⟨by decide+kernel,by decide,by decide,by decide⟩ 20 _ (by decide+kernel)
end Go.Proofs.YtjpbeacamoijhaaGreatDoor
set_option linter.unusedSimpArgs false
set_option linter.unusedVariables false
namespace Go.Proofs.YtjpbeacamoijhaaGreatDoor
open Go Go.RowKit Go.Shelf
set_option maxHeartbeats 4000000
set_option maxRecDepth 100000
theorem RH:(Tryz.prog.info? 82).map (·.size)=some 2:=by kernel_rfl
theorem y9l:liesAt Tryz.prog Tryz.prog.depth 82 (2/Tryz.prog.cellsOf 82) 0 82 1=true:=by kernel_rfl
theorem LJ:Tryz.prog.underlying 79=some (.pointer 82):=by kernel_rfl
theorem Wj:Tryz.prog.underlying 166=some .unsafePointer:=by kernel_rfl
theorem Ts:(Tryz.prog.info? 5).map (fun i=>(i.zero,i.size,i.bytes))=some (some (.int .u8 0),1,1):=by kernel_rfl
theorem Se:Tryz.prog.underlying 80=some (.slice 5):=by kernel_rfl
theorem FX:Tryz.prog.underlying 9=some .string:=by kernel_rfl
theorem y5o (b:Nat) (w:World) (h0:w.cell? ⟨b,0,none⟩=some (.pointer (some ⟨b,0,none⟩))):
  Calls Tryz.prog 99 #[.pointer (some ⟨b,0,none⟩)] w fun e w'=>e= .returned (.tuple #[])/\w'=w:=by
 obtain ⟨j,hj,_⟩:=Option.map_eq_some_iff.1 RH
 go_enter Tryz.func99,Tryz.ntmps99
 go_wp2
 rw [Lib.run_neq_ptr_same w _ LJ hj]
 go_wp2
 go_end0
 exact ⟨rfl,rfl⟩
theorem y2o (b:Nat) (w:World) (h0:w.cell? ⟨b,0,none⟩=some (.pointer none)) (Yl:w.shape? b=some (82,2)) (hfz:w.frozen? ⟨b,0,none⟩=false):
  Calls Tryz.prog 99 #[.pointer (some ⟨b,0,none⟩)] w fun e w'=>e= .returned (.tuple #[])/\w'=w.setCell ⟨b,0,none⟩ (.pointer (some ⟨b,0,none⟩)):=by
 obtain ⟨j,hj,hjs⟩:=Option.map_eq_some_iff.1 RH
 go_enter Tryz.func99,Tryz.ntmps99
 go_wp2
 rw [Lib.run_to_unsafe w ⟨b,0,none⟩ LJ Wj hj (by rw [hjs];decide) Yl (Nat.zero_lt_succ 1)];simp only [Result.andThen];rw [Oper.upon_value]
 go_wp2
 rw [run_callFunc_extern Tryz.func149 (by kernel_rfl) (by kernel_rfl) (by kernel_rfl) (e:=Extern.AbiNoEscape.same) (by kernel_rfl)];rw [Lib.run_noEscape];simp only [Result.andThen];rw [Oper.upon_value]
 go_wp2
 rw [Lib.run_from_unsafe w ⟨b,0,none⟩ Wj LJ hj Yl y9l];simp only [Result.andThen];rw [Oper.upon_value]
 go_wp2
 go_end0
 exact ⟨rfl,rfl⟩
theorem Uo (B b:Nat) (bs:List Value) (w:World) (h:Lib.IsBuilderF 82 5 B b bs w):
  Calls Tryz.prog 99 #[.pointer (some ⟨b,0,none⟩)] w fun e w'=>e= .returned (.tuple #[])/\(Lib.BuilderAtF 82 5 B b (.pointer (some ⟨b,0,none⟩)) bs w'/\Below B w w'/\Lib.OthersKept 5 (some b) w w'):=by
 rcases h with h|h
 ·refine (y2o b w h.cell0 h.shape h.frozen0).mono ?_;rintro e w' ⟨rfl,rfl⟩;exact ⟨rfl,h.used _,(Below.refl B w).setCell (p:=⟨b,0,none⟩) h.1 _,(Lib.OthersKept.refl _ _ w).setCell ⟨b,0,none⟩ rfl _⟩
 ·refine (y5o b w h.cell0).mono ?_;rintro e w' ⟨rfl,rfl⟩;exact ⟨rfl,h,Below.refl B _,Lib.OthersKept.refl _ _ _⟩
theorem y5p (B b:Nat) (bs:List Value) (c:Int) (w:World) (h:Lib.IsBuilderF 82 5 B b bs w) (hlen:bs.length+1<=140737488355328) (hBw:B<=w.heap.size):
  Calls Tryz.prog 51 #[.pointer (some ⟨b,0,none⟩), .int .u8 c] w fun e w'=>e= .returned .nilIface/\(Lib.BuilderAtF 82 5 B b (.pointer (some ⟨b,0,none⟩)) (bs++[.int .u8 c]) w'/\Below B w w'/\Lib.OthersKept 5 (some b) w w'):=by
 obtain ⟨i0,hi,rC,p8,tl⟩:=info_parts Ts
 go_enter Tryz.func51,Tryz.ntmps51
 go_wp2_with (go_at_call 99;refine (Uo B b bs _ h).mono ?_)
 rintro e w1 ⟨rfl,h1,iM,Bz⟩;obtain ⟨hB,v,rF,kW,aA⟩:=h1;have c0:w1.cell? ⟨b,0,none⟩=some (.pointer (some ⟨b,0,none⟩)):=by rw [Lib.cell_of_heap rF];rfl
 have c1:w1.cell? ⟨b,1,none⟩=some v:=by rw [Lib.cell_of_heap rF];rfl
 go_wp2_with (at_builtin;refine wpList_append_ownF _ rfl _ _ 80 rfl B 5 i0 (.int .u8 0) 1 1 Se hi rC p8 tl rfl (by decide) _ _ _ rfl (kW.alloc _) ⟨w1.heap.size,0,none⟩ 1 1 [.int .u8 c] rfl rfl ?c1 ?c2 ?c3 ?c4 ?c5 ?_)
 case c1=>
  intro j u hj
  match j,hj with
  |0,hj=>simp at hj;subst hj;simp [Addr.add]
 case c2=>intro u hu;simp at hu;subst hu;rfl
 case c3=>unfold maxLen;omega
 case c4=>omega
 case c5=>have:=iM.size;simp;omega
 intro v' w2 sd o9 _;have aD:b<w1.heap.size:=by
  rcases zzV b w1.heap.size with h'|h'
  ·exact h'
  ·simp [Array.getElem?_eq_none h'] at rF
 have tE:w2.heap[b]?=some (.cells #[.pointer (some ⟨b,0,none⟩),v] 82 (0,0)):=by
  rw [o9.block b (by simp;omega) (fun e=>aA e.symm),Lib.alloc_old w1 _ b aD];exact rF
 have d0:w2.cell? ⟨b,0,none⟩=some (.pointer (some ⟨b,0,none⟩)):=by rw [Lib.cell_of_heap tE];rfl
 have d1:w2.cell? ⟨b,1,none⟩=some v:=by rw [Lib.cell_of_heap tE];rfl
 have f1:w2.frozen? ⟨b,1,none⟩=false:=Lib.frozen_of_heap tE 1;obtain ⟨g,cap,rfl⟩: ∃g cap,v'= .slice (some ⟨g,0,none⟩) (bs.length+1) cap:=by
  rcases sd.2 with ⟨_,h0⟩|⟨g,cap,cur,fz,hv,_⟩
  ·omega
  ·exact ⟨g,cap,hv⟩
 go_wp2
 go_ret
 refine ⟨rfl,?_,?_,((Bz.alloc _).grown o9 (Lib.ownsRowF_kind (kW.alloc _))).setCell ⟨b,1,none⟩ rfl _⟩
 ·exact Lib.BuilderAtF.put (T:=82) (e:=5) hB tE (bs':=bs++[.int .u8 c]) (by simpa using sd) (by decide)
 ·exact ((iM.alloc (by have:=iM.size;omega) _).grown o9 (by have:=iM.size;simp;omega) (fun k hk=>(kW.lt k hk).1)).setCell (p:=⟨b,1,none⟩) hB _
theorem y9m (B b:Nat) (bs:List Value) (s:ByteArray) (w:World) (h:Lib.IsBuilderF 82 5 B b bs w) (hlen:bs.length+s.size<=140737488355328) (hBw:B<=w.heap.size):
  Calls Tryz.prog 50 #[.pointer (some ⟨b,0,none⟩), .string s] w fun e w'=>e= .returned (.tuple #[.int .i64 s.size, .nilIface])/\(Lib.BuilderAtF 82 5 B b (.pointer (some ⟨b,0,none⟩)) (bs++Lib.strCells s) w'/\Below B w w'/\Lib.OthersKept 5 (some b) w w'):=by
 obtain ⟨i0,hi,rC,p8,tl⟩:=info_parts Ts
 go_enter Tryz.func50,Tryz.ntmps50
 go_wp2_with (go_at_call 99;refine (Uo B b bs _ h).mono ?_)
 rintro e w1 ⟨rfl,h1,iM,Bz⟩;obtain ⟨hB,v,rF,kW,aA⟩:=h1;have c0:w1.cell? ⟨b,0,none⟩=some (.pointer (some ⟨b,0,none⟩)):=by rw [Lib.cell_of_heap rF];rfl
 have c1:w1.cell? ⟨b,1,none⟩=some v:=by rw [Lib.cell_of_heap rF];rfl
 go_wp2_with (at_builtin;refine Lib.wpList_append_own_stringF _ rfl _ _ 80 9 rfl B 5 i0 Se FX hi rC p8 tl _ _ _ rfl kW s rfl ?c3 ?c4 ?c5 ?_)
 case c3=>unfold maxLen;omega
 case c4=>omega
 case c5=>have:=iM.size;omega
 intro v' w2 sd o9 _;have aD:b<w1.heap.size:=by
  rcases zzV b w1.heap.size with h'|h'
  ·exact h'
  ·simp [Array.getElem?_eq_none h'] at rF
 have tE:w2.heap[b]?=some (.cells #[.pointer (some ⟨b,0,none⟩),v] 82 (0,0)):=by
  rw [o9.block b aD (fun e=>aA e.symm)];exact rF
 have d0:w2.cell? ⟨b,0,none⟩=some (.pointer (some ⟨b,0,none⟩)):=by rw [Lib.cell_of_heap tE];rfl
 have d1:w2.cell? ⟨b,1,none⟩=some v:=by rw [Lib.cell_of_heap tE];rfl
 have f1:w2.frozen? ⟨b,1,none⟩=false:=Lib.frozen_of_heap tE 1;obtain ⟨ao,n',cap,rfl⟩: ∃ao n' cap,v'= .slice ao n' cap:=by
  rcases sd.2 with ⟨hv,_⟩|⟨g,cap,cur,fz,hv,_⟩
  ·exact ⟨_,_,_,hv⟩
  ·exact ⟨_,_,_,hv⟩
 go_wp2
 go_ret2
 refine ⟨rfl,?_,?_,(Bz.grown o9 (Lib.ownsRowF_kind kW)).setCell ⟨b,1,none⟩ rfl _⟩
 ·exact Lib.BuilderAtF.put (T:=82) (e:=5) hB tE (bs':=bs++Lib.strCells s) (by simpa [Lib.strCells_length] using sd) (by decide)
 ·exact (iM.grown o9 (by have:=iM.size;omega) (fun k hk=>(kW.lt k hk).1)).setCell (p:=⟨b,1,none⟩) hB _
end Go.Proofs.YtjpbeacamoijhaaGreatDoor
