/- Layer 17: permutes; the width of an order; the greedy order. -/
import Derived.Test.YtphjphpmfflfpaaGreatDoorTo1
import Derived.Test.YtphjphpmfflfpaaGreatDoorZb
import Derived.Test.YtphjphpmfflfpaaGreatDoorZo
import Derived.Test.YtphjphpmfflfpaaGreatDoorZc
namespace Go.Proofs.YtphjphpmfflfpaaGreatDoor
open Go Go.RowKit
set_option maxRecDepth 100000
set_option maxHeartbeats 8000000
set_option linter.unusedVariables false
set_option linter.unusedSimpArgs false
def wc (o:List Int) (n k:Nat):Bool:=decide (0<=o.getD k 0)&&decide (o.getD k 0<n)&& !((o.take k).contains (o.getD k 0))
def gdN (o:List Int) (n:Nat):Nat->Bool
 |0=>true
 |k+1=>gdN o n k&&wc o n k
def qh (o:List Int) (n:Nat):Bool:=(o.length==n)&&gdN o n o.length
def mL (n:Nat) (l:List Int):List Bool:=(List.range n).map fun (c:Nat)=>l.contains (c:Int)
theorem Ei (n:Nat) (l:List Int):(mL n l).length=n:=by simp [mL]
theorem F3 (n:Nat):mL n []=List.replicate n false:=by
 apply List.ext_getElem?;intro i;by_cases h:i<n<;>simp [mL,h]
theorem Eh (n:Nat) (l:List Int) {x:Int} (h0:0<=x) (h1:x<n):(mL n l).getD x.toNat false=l.contains x:=by
 have:x.toNat<n:=by omega
 simp only [mL,List.getD_eq_getElem?_getD,List.getElem?_map,List.getElem?_range this,Option.map_some,Option.getD_some];rw [show ((x.toNat:Nat):Int)=x by omega]
theorem GF (n:Nat) (l:List Int) {x:Int} (h0:0<=x) (h1:x<n):(mL n l).set x.toNat true=mL n (l++[x]):=by
 apply List.ext_getElem?;intro i;rw [List.getElem?_set,Ei];by_cases e:x.toNat=i
 ·subst e;rw [if_pos rfl,if_pos (by omega)];simp only [mL,List.getElem?_map,List.getElem?_range (show x.toNat<n by omega),Option.map_some];rw [show ((x.toNat:Nat):Int)=x by omega];simp
 ·rw [if_neg e];by_cases hi:i<n
  ·simp only [mL,List.getElem?_map,List.getElem?_range hi,Option.map_some];congr 1
   have:(i:Int)≠x:=fun g=>e (by omega)
   simp [List.contains_eq_any_beq,this]
  ·simp [mL,hi]
theorem Tx (o:List Int) (n:Nat) (ho:o.length<=100000) (hn:n<=100000):Fn Tryz.prog 117 [roI o,I n] (.bool (qh o n)):=by
 by_cases rO:o.length=n
 ·have b0:((o.length:Int)!=(n:Int))=false:=by simp [rO]
  have KZ:qh o n=gdN o n n:=by unfold qh;rw [rO];simp
  rw [KZ];refine Fn.au [.tmp 4] Tryz.func117 rfl rfl (by decide) (by simp [Tryz.ntmps117]) ?_;rw [Tryz.ntmps117]
  repeat' (first|omega|(try apply aj);simp only [go_sem,sevalprocAttr,b0,rO,Int.toNat_natCast]|apply ag<;>(intro h_;(try simp only [h_]);revert h_)|apply ah|apply ai|apply ae|apply And.intro|with_reducible intro h_|trivial|simp only [go_sem,ak];omega)
  refine bN.intro (fun n' fr H=> ∃k:Nat,k<=n/\gdN o n k=true/\n'=n-k/\fr=[(16,I k),(15,I n),(14,roI o),(5, .sl 1 0 0 n),(0,roI o),(1,I n)]/\H=[(0, .cells 4 (.bools (mL n (o.take k))))]) ?_ ?_
  ·refine ⟨_,_,_,?_,0,by omega,rfl,rfl,rfl,rfl⟩;refine Wk.sub ?_ ?_<;>(simp only [go_sem,sevalprocAttr,rO,F3,List.take_zero])
  rintro n' fr H ⟨k,hk,xx,rfl,rfl,rfl⟩;have dq:=Ei n (o.take k);by_cases uw:k<n
  ·have bk:decide ((k:Int)<n)=true:=by simp;omega
   by_cases h1:0<=o.getD k 0/\o.getD k 0<n
   ·have b1:decide (o.getD k 0<0)=false:=by rw [decide_eq_false_iff_not];omega
    have b2:decide ((n:Int)<=o.getD k 0)=false:=by rw [decide_eq_false_iff_not];omega
    have hg:=Eh n (o.take k) h1.1 h1.2;have bo:=GF n (o.take k) h1.1 h1.2;rw [←yN (show k<o.length by omega)] at bo;cases hc:(o.take k).contains (o.getD k 0) with
    |true=>
     rw [hc] at hg;have hf:gdN o n n=false:=by
      have key: ∀d,gdN o n (k+1+d)=false:=fun d=>by
       induction d with
       |zero=>simp only [gdN,wc,hc,Bool.not_true,Bool.and_false,Nat.add_zero]
       |succ d ih=>rw [←Nat.add_assoc];simp only [gdN,ih,Bool.false_and]
      have:=key (n-k-1)
      rwa [show k+1+(n-k-1)=n by omega] at this
     rw [hf]
     repeat' (first|omega|(try apply aj);simp only [go_sem,sevalprocAttr,bk,b1,b2,hg,dq,rO]|apply ag<;>(intro h_;(try simp only [h_]);revert h_)|apply ah|apply ai|apply ae|apply And.intro|with_reducible intro h_|trivial|simp only [go_sem,ak];omega)
     all_goals exact aM.refl _
    |false=>
     rw [hc] at hg;have nN:gdN o n (k+1)=true:=by simp only [gdN,wc,xx,hc];rw [decide_eq_true h1.1,decide_eq_true h1.2];rfl
     repeat' (first|omega|(try apply aj);simp only [go_sem,sevalprocAttr,bk,b1,b2,hg,dq,rO,bo]|apply ag<;>(intro h_;(try simp only [h_]);revert h_)|apply ah|apply ai|apply ae|apply And.intro|with_reducible intro h_|trivial|simp only [go_sem,ak];omega)
     refine ⟨_,_,_,?_,?_,k+1,by omega,nN,rfl,rfl,rfl⟩
     ·omega
     ·refine Wk.sub ?_ ?_<;>(simp only [go_sem,sevalprocAttr,rO,bo])
   ·have hf:gdN o n n=false:=by
     have Cw:wc o n k=false:=by
      unfold wc;by_cases h2:0<=o.getD k 0
      ·rw [show decide (o.getD k 0<n)=false by rw [decide_eq_false_iff_not];exact fun h=>h1 ⟨h2,h⟩];simp
      ·rw [show decide (0<=o.getD k 0)=false by rw [decide_eq_false_iff_not];exact h2];simp
     have key: ∀d,gdN o n (k+1+d)=false:=fun d=>by
      induction d with
      |zero=>simp only [gdN,Cw,Bool.and_false,Nat.add_zero]
      |succ d ih=>rw [←Nat.add_assoc];simp only [gdN,ih,Bool.false_and]
     have:=key (n-k-1)
     rwa [show k+1+(n-k-1)=n by omega] at this
    rw [hf];by_cases h2:o.getD k 0<0
    ·have b1:decide (o.getD k 0<0)=true:=by simpa using h2
     repeat' (first|omega|(try apply aj);simp only [go_sem,sevalprocAttr,bk,b1,dq,rO]|apply ag<;>(intro h_;(try simp only [h_]);revert h_)|apply ah|apply ai|apply ae|apply And.intro|with_reducible intro h_|trivial|simp only [go_sem,ak];omega)
     all_goals exact aM.refl _
    ·have b1:decide (o.getD k 0<0)=false:=by simpa using h2
     have b2:decide ((n:Int)<=o.getD k 0)=true:=by rw [decide_eq_true_eq];omega
     repeat' (first|omega|(try apply aj);simp only [go_sem,sevalprocAttr,bk,b1,b2,dq,rO]|apply ag<;>(intro h_;(try simp only [h_]);revert h_)|apply ah|apply ai|apply ae|apply And.intro|with_reducible intro h_|trivial|simp only [go_sem,ak];omega)
     all_goals exact aM.refl _
  ·obtain rfl:k=n:=by omega
   have bk:decide ((k:Int)<k)=false:=by simp
   rw [xx]
   repeat' (first|omega|(try apply aj);simp only [go_sem,sevalprocAttr,bk,rO]|apply ag<;>(intro h_;(try simp only [h_]);revert h_)|apply ah|apply ai|apply ae|apply And.intro|with_reducible intro h_|trivial|simp only [go_sem,ak];omega)
   all_goals exact aM.refl _
 ·have b0:((o.length:Int)!=(n:Int))=true:=by simp;omega
  have KZ:qh o n=false:=by unfold qh;rw [show (o.length==n)=false by simpa using rO];rfl
  rw [KZ];refine Fn.au [.tmp 4] Tryz.func117 rfl rfl (by decide) (by simp [Tryz.ntmps117]) ?_;rw [Tryz.ntmps117]
  repeat' (first|omega|(try apply aj);simp only [go_sem,sevalprocAttr,b0]|apply ag<;>(intro h_;(try simp only [h_]);revert h_)|apply ah|apply ai|apply ae|apply And.intro|with_reducible intro h_|trivial|simp only [go_sem,ak];omega)
  all_goals exact aM.refl _
theorem MH {o:List Int} {n:Nat}: ∀k,k<=o.length->gdN o n k=true->iE n (o.take k)
 |0,_,_=>⟨by simp,by simp⟩
 |k+1,hk,h=>by
  simp only [gdN,wc,Bool.and_eq_true,decide_eq_true_eq,Bool.not_eq_true'] at h;obtain ⟨h1,⟨h2,h3⟩,h4⟩:=h;have ih:=MH k (by omega) h1;rw [yN (by omega)];refine ⟨?_,fun x hx=>?_⟩
  ·rw [List.nodup_append];refine ⟨ih.nd,by simp,fun x hx y hy e=>?_⟩;simp only [List.mem_cons,List.not_mem_nil,or_false] at hy;subst hy;subst e;simp at h4;exact h4 (by simpa using hx)
  ·rcases List.mem_append.1 hx with hx|hx
   ·exact ih.rg x hx
   ·simp only [List.mem_cons,List.not_mem_nil,or_false] at hx;subst hx;exact ⟨h2,h3⟩
theorem OX {o:List Int} {n:Nat} (h:qh o n=true):iE n o/\o.length=n:=by
 simp only [qh,Bool.and_eq_true,beq_iff_eq] at h
 have:=MH o.length (Nat.le_refl _) h.2
 rw [List.take_length] at this;exact ⟨this,h.1⟩
theorem MG {o:List Int} {n:Nat} (h:iE n o): ∀k,k<=o.length->gdN o n k=true
 |0,_=>rfl
 |k+1,hk=>by
  have h1:=(Hl h (k+1)).nd;rw [yN (by omega),List.nodup_append] at h1;have hm:o.getD k 0∈o:=by
   rw [List.getD_eq_getElem?_getD,List.getElem?_eq_getElem (show k<o.length by omega)];exact List.getElem_mem _
  have h2:=h.rg _ hm;simp only [gdN,wc,MG h k (by omega),Bool.true_and,Bool.and_eq_true,decide_eq_true_eq,Bool.not_eq_true'];refine ⟨h2,?_⟩;cases hc:(o.take k).contains (o.getD k 0) with
  |false=>rfl
  |true=>
   rw [List.contains_iff_mem] at hc;exact absurd rfl (h1.2.2 _ hc _ (List.mem_cons_self ..))
theorem WG {o:List Int} {n:Nat} (h:iE n o) (hl:o.length=n):qh o n=true:=by
 unfold qh;rw [MG h _ (Nat.le_refl _),hl];simp
theorem A1 {m:List Int} {c j:Nat} (hj:j<4):((m.drop (4*c)).take 4).getD j 0=m.getD (4*c+j) 0:=by
 simp only [List.getD_eq_getElem?_getD,List.getElem?_take,hj,if_true,List.getElem?_drop]
theorem NW {m:List Int} {c n:Nat} (hm:m.length=4*n) (hc:c<n):((m.drop (4*c)).take 4).length=4:=by
 rw [List.length_take,List.length_drop];omega
def wO (s m:List Int) (L:Int) (o:List Int):AV:=if dm s m L=true then (if qh o s.length=true then .tup [I (q9 m o o.length),I 0] else .tup [I 0,I 2]) else .tup [I 0,I 1]
theorem Vt (s m:List Int) (L:Int) (o:List Int) (hs:s.length<=1000) (ho:o.length<=100000):Fn Tryz.prog 56 [dgA s m L,roI o] (wO s m L o):=by
 have hV:=tP s m L;have hP:=Tx o s.length ho (by omega);unfold wO;cases hv:dm s m L with
 |false=>
  rw [hv] at hV;rw [if_neg (by simp)];refine Fn.au [.tmp 4, .tmp 5] Tryz.func56 rfl rfl (by decide) (by simp [Tryz.ntmps56]) ?_;rw [Tryz.ntmps56]
  repeat' (first|omega|(try apply aj);simp only [go_sem,sevalprocAttr]|apply ag<;>(intro h_;(try simp only [h_]);revert h_)|apply ah|apply ai|apply ae|apply And.intro|with_reducible intro h_|trivial|simp only [go_sem,ak];omega)
  all_goals refine ⟨az.fn rfl hV ?_⟩
  all_goals (repeat' (first|omega|(try apply aj);simp only [go_sem,sevalprocAttr]|apply ag<;>(intro h_;(try simp only [h_]);revert h_)|apply ah|apply ai|apply ae|apply And.intro|with_reducible intro h_|trivial|simp only [go_sem,ak];omega))
  all_goals exact aM.refl _
 |true=>
  rw [hv] at hV;rw [if_pos rfl];cases xj:qh o s.length with
  |false=>
   rw [xj] at hP;rw [if_neg (by simp)];refine Fn.au [.tmp 4, .tmp 5] Tryz.func56 rfl rfl (by decide) (by simp [Tryz.ntmps56]) ?_;rw [Tryz.ntmps56]
   repeat' (first|omega|(try apply aj);simp only [go_sem,sevalprocAttr]|apply ag<;>(intro h_;(try simp only [h_]);revert h_)|apply ah|apply ai|apply ae|apply And.intro|with_reducible intro h_|trivial|simp only [go_sem,ak];omega)
   all_goals refine ⟨az.fn rfl hV ?_⟩
   all_goals (repeat' (first|omega|(try apply aj);simp only [go_sem,sevalprocAttr]|apply ag<;>(intro h_;(try simp only [h_]);revert h_)|apply ah|apply ai|apply ae|apply And.intro|with_reducible intro h_|trivial|simp only [go_sem,ak];omega))
   all_goals refine ⟨az.fn rfl hP ?_⟩
   all_goals (repeat' (first|omega|(try apply aj);simp only [go_sem,sevalprocAttr]|apply ag<;>(intro h_;(try simp only [h_]);revert h_)|apply ah|apply ai|apply ae|apply And.intro|with_reducible intro h_|trivial|simp only [go_sem,ak];omega))
   all_goals exact aM.refl _
  |true=>
   rw [xj] at hP;rw [if_pos rfl];obtain ⟨mZ,cG⟩:=OX xj;have hp:=(jC hv).dd;have fB:=hp.ok.1;refine Fn.au [.tmp 4, .tmp 5] Tryz.func56 rfl rfl (by decide) (by simp [Tryz.ntmps56]) ?_;rw [Tryz.ntmps56]
   repeat' (first|omega|(try apply aj);simp only [go_sem,sevalprocAttr]|apply ag<;>(intro h_;(try simp only [h_]);revert h_)|apply ah|apply ai|apply ae|apply And.intro|with_reducible intro h_|trivial|simp only [go_sem,ak];omega)
   all_goals refine ⟨az.fn rfl hV ?_⟩
   all_goals (repeat' (first|omega|(try apply aj);simp only [go_sem,sevalprocAttr]|apply ag<;>(intro h_;(try simp only [h_]);revert h_)|apply ah|apply ai|apply ae|apply And.intro|with_reducible intro h_|trivial|simp only [go_sem,ak];omega))
   all_goals refine ⟨az.fn rfl hP ?_⟩
   all_goals (repeat' (first|omega|(try apply aj);simp only [go_sem,sevalprocAttr,Int.toNat_natCast]|apply ag<;>(intro h_;(try simp only [h_]);revert h_)|apply ah|apply ai|apply ae|apply And.intro|with_reducible intro h_|trivial|simp only [go_sem,ak];omega))
   refine bN.intro (fun n' fr H=> ∃k:Nat,k<=s.length/\n'=s.length-k/\fr=[(28,I k),(27,I s.length),(26,roI o),(8,I (q9 m o k)),(7,I (mC m o k)),(6, .sl 1 1 0 s.length),(2, .ptr 0 0)]/\
    H=[(1, .cells 4 (.bools (mL s.length (o.take k)))),(0, .cells 24 (.lst [roI s,roI m,I L]))]) ?_ ?_
   ·refine ⟨_,_,_,Wk.sub ?_ ?_,0,by omega,rfl,rfl,rfl⟩
    ·simp only [go_sem,sevalprocAttr,cG,q9,mC]
    ·simp only [go_sem,sevalprocAttr,F3,List.take_zero]
   rintro n' fr H ⟨k,hk,rfl,rfl,rfl⟩;have dq:=Ei s.length (o.take k);have zB:=GG m o k;by_cases uw:k<s.length
   ·have bk:decide ((k:Int)<s.length)=true:=by simp;omega
    have iB:o.getD k 0∈o:=by
     rw [List.getD_eq_getElem?_getD,List.getElem?_eq_getElem (show k<o.length by omega)];exact List.getElem_mem _
    have hx:=mZ.rg _ iB;have bo:=GF s.length (o.take k) hx.1 hx.2;rw [←yN (show k<o.length by omega)] at bo;obtain ⟨c,hc⟩: ∃c:Nat,o.getD k 0=c:=⟨(o.getD k 0).toNat,by omega⟩;have Lv:mC m o (k+1)=mC m o k+po m (o.take k) c 4:=by simp only [mC,hc]
    rw [hc] at bo hx;rw [Int.toNat_natCast] at bo;have e4:(4*(c:Int)).toNat=4*c:=by omega
    have e5:(4*(c:Int)+4).toNat=4*c+4:=by omega
    have e6:4*c+4-4*c=4:=by omega
    have zd:=NW (c:=c) fB (by omega)
    repeat' (first|omega|(try apply aj);simp only [go_sem,sevalprocAttr,bk,hc,cG,e4,e5,e6,Int.toNat_natCast]|apply ag<;>(intro h_;(try simp only [h_]);revert h_)|apply ah|apply ai|apply ae|apply And.intro|with_reducible intro h_|trivial|simp only [go_sem,ak];omega)
    refine bN.intro (fun n' fr H=> ∃j:Nat,j<=4/\n'=4-j/\fr=[(41,I j),(40,I 4),(39, .ro 1 4 (.ints ((m.drop (4*c)).take 4))),(10,I c),(28,I k),(27,I s.length),(26,roI o),(8,I (q9 m o k)),(7,I (mC m o k+po m (o.take k) c j)),(6, .sl 1 1 0 s.length),(2, .ptr 0 0)]/\
     H=[(1, .cells 4 (.bools (mL s.length (o.take k)))),(0, .cells 24 (.lst [roI s,roI m,I L]))]) ?_ ?_
    ·refine ⟨_,_,_,Wk.sub ?_ ?_,0,by omega,rfl,rfl,rfl⟩
     ·(simp only [go_sem,sevalprocAttr,cG,po,Int.add_zero])<;>rfl
     ·simp only [go_sem,sevalprocAttr]
    rintro n' fr H ⟨j,hj,rfl,rfl,rfl⟩;have hsr:=Ej m (o.take k) c j;by_cases hj4:j<4
    ·have bj:decide ((j:Int)<4)=true:=by simp;omega
     have vB:=A1 (m:=m) (c:=c) hj4;have hy:=hp.ok.2 (4*c+j) (by omega);have e7:(4*(c:Int)+(j:Int)).toNat=4*c+j:=by omega
     obtain ⟨y,BL⟩: ∃y:Nat,m.getD (4*c+j) 0=y:=⟨(m.getD (4*c+j) 0).toNat,by omega⟩;have eh:po m (o.take k) c (j+1)=po m (o.take k) c j+if (y:Int)/4=c then 0 else if (y:Int)/4∈o.take k then-1 else 1:=by simp only [po,e7,BL]
     have zj:(y:Int).tdiv 4=(y:Int)/4:=Int.tdiv_eq_ediv_of_nonneg (by omega);have hg:=Eh s.length (o.take k) (x:=(y:Int)/4) (by omega) (by omega);have hq:((y:Int)/4).toNat=y/4:=by omega
     rw [hq] at hg;rw [BL] at vB;by_cases h1:(y:Int)/4=c
     ·have b1:((y:Int)/4==(c:Int))=true:=by simpa using h1
      rw [if_pos h1,Int.add_zero] at eh
      repeat' (first|omega|(try apply aj);simp only [go_sem,sevalprocAttr,bj,vB,zd,zj,b1,cG]|apply ag<;>(intro h_;(try simp only [h_]);revert h_)|apply ah|apply ai|apply ae|apply And.intro|with_reducible intro h_|trivial|simp only [go_sem,ak];omega)
      refine ⟨_,_,_,?_,Wk.sub ?_ ?_,j+1,by omega,rfl,rfl,rfl⟩
      ·omega
      ·simp only [go_sem,sevalprocAttr,cG,eh]
      ·simp only [go_sem,sevalprocAttr]
     ·have b1:((y:Int)/4==(c:Int))=false:=by simpa using h1
      rw [if_neg h1] at eh;by_cases h2:(y:Int)/4∈o.take k
      ·rw [if_pos h2] at eh;have b2:(o.take k).contains ((y:Int)/4)=true:=by simpa using h2
       rw [b2] at hg
       repeat' (first|omega|(try apply aj);simp only [go_sem,sevalprocAttr,bj,vB,zd,zj,b1,hg,dq,hq,cG]|apply ag<;>(intro h_;(try simp only [h_]);revert h_)|apply ah|apply ai|apply ae|apply And.intro|with_reducible intro h_|trivial|simp only [go_sem,ak];omega)
       refine ⟨_,_,_,?_,Wk.sub ?_ ?_,j+1,by omega,rfl,rfl,rfl⟩
       ·omega
       ·simp only [go_sem,sevalprocAttr,cG,eh];omega
       ·simp only [go_sem,sevalprocAttr]
      ·rw [if_neg h2] at eh;have b2:(o.take k).contains ((y:Int)/4)=false:=by simpa using h2
       rw [b2] at hg
       repeat' (first|omega|(try apply aj);simp only [go_sem,sevalprocAttr,bj,vB,zd,zj,b1,hg,dq,hq,cG]|apply ag<;>(intro h_;(try simp only [h_]);revert h_)|apply ah|apply ai|apply ae|apply And.intro|with_reducible intro h_|trivial|simp only [go_sem,ak];omega)
       refine ⟨_,_,_,?_,Wk.sub ?_ ?_,j+1,by omega,rfl,rfl,rfl⟩
       ·omega
       ·simp only [go_sem,sevalprocAttr,cG,eh];omega
       ·simp only [go_sem,sevalprocAttr]
    ·obtain rfl:j=4:=by omega
     have bj:decide (((4:Nat):Int)<4)=false:=by decide
     rw [←Lv];have Fb:q9 m o (k+1)=max (q9 m o k) (mC m o (k+1)):=rfl
     repeat' (first|omega|(try apply aj);simp only [go_sem,sevalprocAttr,bj,dq,bo,cG,Int.toNat_natCast]|apply ag<;>(intro h_;(try simp only [h_]);revert h_)|apply ah|apply ai|apply ae|apply And.intro|with_reducible intro h_|trivial|simp only [go_sem,ak];omega)
     refine ⟨_,_,_,?_,Wk.sub ?_ ?_,k+1,by omega,rfl,rfl,rfl⟩
     ·omega
     ·simp only [go_sem,sevalprocAttr,cG];rw [Fb];split<;>omega
     ·simp only [go_sem,sevalprocAttr,bo]
   ·obtain rfl:k=s.length:=by omega
    have bk:decide ((s.length:Int)<s.length)=false:=by simp
    repeat' (first|omega|(try apply aj);simp only [go_sem,sevalprocAttr,bk,cG]|apply ag<;>(intro h_;(try simp only [h_]);revert h_)|apply ah|apply ai|apply ae|apply And.intro|with_reducible intro h_|trivial|simp only [go_sem,ak];omega)
    all_goals exact aM.refl _
def nW (m out:List Int) (c:Nat):Int:=if fj m out c<0 then-1 else (eN m out (fj m out c).toNat 4:Int)
theorem WE (m:List Int) (n k:Nat) (hk:k<n):0<=fj m (iJ m n k) n:=by
 have:=(GH m n (k+1) (by omega)).rg (fj m (iJ m n k) n) (by simp [iJ])
 exact this.1
theorem Vs (s m:List Int) (L:Int) (hs:s.length<=1000):Fn Tryz.prog 54 [dgA s m L] (if dm s m L=true then roI (iJ m s.length s.length) else .nils):=by
 have hV:=tP s m L;cases hv:dm s m L with
 |false=>
  rw [hv] at hV;rw [if_neg (by simp)];refine Fn.au [.tmp 2] Tryz.func54 rfl rfl (by decide) (by simp [Tryz.ntmps54]) ?_;rw [Tryz.ntmps54]
  repeat' (first|omega|(try apply aj);simp only [go_sem,sevalprocAttr]|apply ag<;>(intro h_;(try simp only [h_]);revert h_)|apply ah|apply ai|apply ae|apply And.intro|with_reducible intro h_|trivial|simp only [go_sem,ak];omega)
  all_goals refine ⟨az.fn rfl hV ?_⟩
  all_goals (repeat' (first|omega|(try apply aj);simp only [go_sem,sevalprocAttr]|apply ag<;>(intro h_;(try simp only [h_]);revert h_)|apply ah|apply ai|apply ae|apply And.intro|with_reducible intro h_|trivial|simp only [go_sem,ak];omega))
  all_goals exact aM.refl _
 |true=>
  rw [hv] at hV;rw [if_pos rfl];have hp:=(jC hv).dd;have fB:=hp.ok.1;refine Fn.au [.tmp 2] Tryz.func54 rfl rfl (by decide) (by simp [Tryz.ntmps54]) ?_;rw [Tryz.ntmps54]
  repeat' (first|omega|(try apply aj);simp only [go_sem,sevalprocAttr]|apply ag<;>(intro h_;(try simp only [h_]);revert h_)|apply ah|apply ai|apply ae|apply And.intro|with_reducible intro h_|trivial|simp only [go_sem,ak];omega)
  all_goals refine ⟨az.fn rfl hV ?_⟩
  all_goals (repeat' (first|omega|(try apply aj);simp only [go_sem,sevalprocAttr,Int.toNat_natCast]|apply ag<;>(intro h_;(try simp only [h_]);revert h_)|apply ah|apply ai|apply ae|apply And.intro|with_reducible intro h_|trivial|simp only [go_sem,ak];omega))
  refine bN.intro (fun n' fr H=> ∃k:Nat,k<=s.length/\n'=s.length-k/\fr=[(25,I k),(24,I s.length),(4, .sl 1 2 0 k),(3, .sl 1 1 0 s.length),(1, .ptr 0 0)]/\
   H=[(2, .cells 3 (.ints (iJ m s.length k))),(1, .cells 4 (.bools (mL s.length (iJ m s.length k)))),(0, .cells 24 (.lst [roI s,roI m,I L]))]) ?_ ?_
  ·refine ⟨_,_,_,Wk.sub ?_ ?_,0,by omega,rfl,rfl,rfl⟩
   ·simp only [go_sem,sevalprocAttr]
   ·simp only [go_sem,sevalprocAttr,F3,iJ,List.replicate_zero]
  rintro n' fr H ⟨k,hk,rfl,rfl,rfl⟩;have cG:=Ek m s.length k;obtain ⟨o,tm⟩: ∃o,iJ m s.length k=o:=⟨_,rfl⟩;have dq:=Ei s.length o;by_cases uw:k<s.length
  ·have bk:decide ((k:Int)<s.length)=true:=by simp;omega
   have pc:=WE m s.length k uw;have Sl:=GI m (iJ m s.length k) s.length;have qD:iJ m s.length (k+1)=o++[fj m o s.length]:=by simp only [iJ,tm]
   rw [tm] at pc Sl cG⊢
   repeat' (first|omega|(try apply aj);simp only [go_sem,sevalprocAttr,bk]|apply ag<;>(intro h_;(try simp only [h_]);revert h_)|apply ah|apply ai|apply ae|apply And.intro|with_reducible intro h_|trivial|simp only [go_sem,ak];omega)
   refine bN.intro (fun n' fr H=> ∃c:Nat,c<=s.length/\n'=s.length-c/\fr=[(30,I c),(29,I s.length),(5,I (fj m o c)),(6,I (nW m o c)),(25,I k),(24,I s.length),(4, .sl 1 2 0 k),(3, .sl 1 1 0 s.length),(1, .ptr 0 0)]/\
    H=[(2, .cells 3 (.ints o)),(1, .cells 4 (.bools (mL s.length o))),(0, .cells 24 (.lst [roI s,roI m,I L]))]) ?_ ?_
   ·refine ⟨_,_,_,Wk.sub ?_ ?_,0,by omega,rfl,rfl,rfl⟩
    ·(simp only [go_sem,sevalprocAttr,fj,nW])<;>rfl
    ·simp only [go_sem,sevalprocAttr]
   rintro n' fr H ⟨c,hc,rfl,rfl,rfl⟩;by_cases Sk:c<s.length
   ·have bc:decide ((c:Int)<s.length)=true:=by simp;omega
    have hg:=Eh s.length o (x:=(c:Int)) (by omega) (by omega);rw [Int.toNat_natCast] at hg;by_cases h1:(c:Int)∈o
    ·have b2:o.contains (c:Int)=true:=by simpa using h1
     have su:fj m o (c+1)=fj m o c:=by simp only [fj];rw [if_pos h1]
     have Cf:nW m o (c+1)=nW m o c:=by unfold nW;rw [su]
     rw [b2] at hg
     repeat' (first|omega|(try apply aj);simp only [go_sem,sevalprocAttr,bc,hg,dq,Int.toNat_natCast]|apply ag<;>(intro h_;(try simp only [h_]);revert h_)|apply ah|apply ai|apply ae|apply And.intro|with_reducible intro h_|trivial|simp only [go_sem,ak];omega)
     refine ⟨_,_,_,?_,Wk.sub ?_ ?_,c+1,by omega,rfl,rfl,rfl⟩
     ·omega
     ·simp only [go_sem,sevalprocAttr,su,Cf]
     ·simp only [go_sem,sevalprocAttr]
    ·have b2:o.contains (c:Int)=false:=by simpa using h1
     have su:fj m o (c+1)=if fj m o c<0\/eN m o (fj m o c).toNat 4<eN m o c 4 then (c:Int) else fj m o c:=by simp only [fj];rw [if_neg h1]
     rw [b2] at hg;have e4:(4*(c:Int)).toNat=4*c:=by omega
     have e5:(4*(c:Int)+4).toNat=4*c+4:=by omega
     have e6:4*c+4-4*c=4:=by omega
     have zd:=NW (c:=c) fB (by omega)
     repeat' (first|omega|(try apply aj);simp only [go_sem,sevalprocAttr,bc,hg,dq,e4,e5,e6,Int.toNat_natCast]|apply ag<;>(intro h_;(try simp only [h_]);revert h_)|apply ah|apply ai|apply ae|apply And.intro|with_reducible intro h_|trivial|simp only [go_sem,ak];omega)
     refine bN.intro (fun n' fr H=> ∃j:Nat,j<=4/\n'=4-j/\fr=[(46,I j),(45,I 4),(44, .ro 1 4 (.ints ((m.drop (4*c)).take 4))),(8,I (eN m o c j)),(7,I c),(30,I c),(29,I s.length),(5,I (fj m o c)),(6,I (nW m o c)),(25,I k),(24,I s.length),(4, .sl 1 2 0 k),(3, .sl 1 1 0 s.length),(1, .ptr 0 0)]/\
      H=[(2, .cells 3 (.ints o)),(1, .cells 4 (.bools (mL s.length o))),(0, .cells 24 (.lst [roI s,roI m,I L]))]) ?_ ?_
     ·refine ⟨_,_,_,Wk.sub ?_ ?_,0,by omega,rfl,rfl,rfl⟩
      ·(simp only [go_sem,sevalprocAttr,eN])<;>rfl
      ·simp only [go_sem,sevalprocAttr]
     rintro n' fr H ⟨j,hj,rfl,rfl,rfl⟩;have Sh:=QB m o c j;by_cases hj4:j<4
     ·have bj:decide ((j:Int)<4)=true:=by simp;omega
      have vB:=A1 (m:=m) (c:=c) hj4;have hy:=hp.ok.2 (4*c+j) (by omega);obtain ⟨y,BL⟩: ∃y:Nat,m.getD (4*c+j) 0=y:=⟨(m.getD (4*c+j) 0).toNat,by omega⟩;have eh:eN m o c (j+1)=eN m o c j+if (y:Int)/4∈o then 1 else 0:=by simp only [eN,BL]
      have zj:(y:Int).tdiv 4=(y:Int)/4:=Int.tdiv_eq_ediv_of_nonneg (by omega);have nP:=Eh s.length o (x:=(y:Int)/4) (by omega) (by omega);have hq:((y:Int)/4).toNat=y/4:=by omega
      rw [hq] at nP;rw [BL] at vB;by_cases h2:(y:Int)/4∈o
      ·rw [if_pos h2] at eh;have b3:o.contains ((y:Int)/4)=true:=by simpa using h2
       rw [b3] at nP
       repeat' (first|omega|(try apply aj);simp only [go_sem,sevalprocAttr,bj,vB,zd,zj,nP,dq,hq]|apply ag<;>(intro h_;(try simp only [h_]);revert h_)|apply ah|apply ai|apply ae|apply And.intro|with_reducible intro h_|trivial|simp only [go_sem,ak];omega)
       refine ⟨_,_,_,?_,Wk.sub ?_ ?_,j+1,by omega,rfl,rfl,rfl⟩
       ·omega
       ·(simp only [go_sem,sevalprocAttr,eh])<;>rfl
       ·simp only [go_sem,sevalprocAttr]
      ·rw [if_neg h2,Nat.add_zero] at eh;have b3:o.contains ((y:Int)/4)=false:=by simpa using h2
       rw [b3] at nP
       repeat' (first|omega|(try apply aj);simp only [go_sem,sevalprocAttr,bj,vB,zd,zj,nP,dq,hq]|apply ag<;>(intro h_;(try simp only [h_]);revert h_)|apply ah|apply ai|apply ae|apply And.intro|with_reducible intro h_|trivial|simp only [go_sem,ak];omega)
       refine ⟨_,_,_,?_,Wk.sub ?_ ?_,j+1,by omega,rfl,rfl,rfl⟩
       ·omega
       ·simp only [go_sem,sevalprocAttr,eh]
       ·simp only [go_sem,sevalprocAttr]
     ·obtain rfl:j=4:=by omega
      have bj:decide (((4:Nat):Int)<4)=false:=by decide
      by_cases h3:fj m o c<0\/eN m o (fj m o c).toNat 4<eN m o c 4
      ·rw [if_pos h3] at su;have b4:decide (nW m o c<(eN m o c 4:Int))=true:=by
        rw [decide_eq_true_eq];unfold nW
        split
        ·omega
        ·rcases h3 with h3|h3<;>omega
       have Cf:nW m o (c+1)=eN m o c 4:=by
        unfold nW;rw [su,if_neg (by omega),Int.toNat_natCast]
       repeat' (first|omega|(try apply aj);simp only [go_sem,sevalprocAttr,bj,b4]|apply ag<;>(intro h_;(try simp only [h_]);revert h_)|apply ah|apply ai|apply ae|apply And.intro|with_reducible intro h_|trivial|simp only [go_sem,ak];omega)
       refine ⟨_,_,_,?_,Wk.sub ?_ ?_,c+1,by omega,rfl,rfl,rfl⟩
       ·omega
       ·simp only [go_sem,sevalprocAttr,su,Cf]
       ·simp only [go_sem,sevalprocAttr]
      ·rw [if_neg h3] at su;have b4:decide (nW m o c<(eN m o c 4:Int))=false:=by
        rw [decide_eq_false_iff_not];unfold nW
        split
        ·exact absurd (.inl (by assumption)) h3
        ·omega
       have Cf:nW m o (c+1)=nW m o c:=by unfold nW;rw [su]
       repeat' (first|omega|(try apply aj);simp only [go_sem,sevalprocAttr,bj,b4]|apply ag<;>(intro h_;(try simp only [h_]);revert h_)|apply ah|apply ai|apply ae|apply And.intro|with_reducible intro h_|trivial|simp only [go_sem,ak];omega)
       refine ⟨_,_,_,?_,Wk.sub ?_ ?_,c+1,by omega,rfl,rfl,rfl⟩
       ·omega
       ·simp only [go_sem,sevalprocAttr,su,Cf]
       ·simp only [go_sem,sevalprocAttr]
   ·obtain rfl:c=s.length:=by omega
    have bc:decide ((s.length:Int)<s.length)=false:=by simp
    have bo:=GF s.length o pc Sl.2
    repeat' (first|omega|(try apply aj);simp only [go_sem,sevalprocAttr,bc,dq,bo,cG]|apply ag<;>(intro h_;(try simp only [h_]);revert h_)|apply ah|apply ai|apply ae|apply And.intro|with_reducible intro h_|trivial|simp only [go_sem,ak];omega)
    refine ⟨_,_,_,?_,Wk.sub ?_ ?_,k+1,by omega,rfl,rfl,rfl⟩
    ·omega
    ·simp only [go_sem,sevalprocAttr,cG]
    ·simp only [go_sem,sevalprocAttr,bo,qD]
  ·obtain rfl:k=s.length:=by omega
   have bk:decide ((s.length:Int)<s.length)=false:=by simp
   repeat' (first|omega|(try apply aj);simp only [go_sem,sevalprocAttr,bk]|apply ag<;>(intro h_;(try simp only [h_]);revert h_)|apply ah|apply ai|apply ae|apply And.intro|with_reducible intro h_|trivial|simp only [go_sem,ak];omega)
   all_goals (rw [List.take_of_length_le (by omega),cG];exact aM.refl _)
end Go.Proofs.YtphjphpmfflfpaaGreatDoor
