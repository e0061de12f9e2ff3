/- Layer 19: the law ConwayShape. -/
import Derived.Test.YtcnilhcplgiidaaDoorZi
import Derived.Test.YtcnilhcplgiidaaDoorZp
import Derived.Test.YtcnilhcplgiidaaDoorZr
import Derived.Test.YtcnilhcplgiidaaDoorZs
namespace Go.Proofs.YtcnilhcplgiidaaDoor
open Go Go.RowKit
set_option maxRecDepth 100000
set_option maxHeartbeats 8000000
set_option linter.unusedVariables false
set_option linter.unusedSimpArgs false
theorem ypz: ∀(q:List Int) (i:Int),AscN (Sp.tmsF i q)
 |[],i=>⟨.nil,fun t ht=>by cases ht⟩
 |a::q,i=>by
  have ih:=ypz q (i+1)
  unfold Sp.tmsF
  split
  ·exact ih
  ·rename_i ha
   refine ⟨List.pairwise_cons.2 ⟨fun t ht=>?_,ih.asc⟩,fun t ht=>?_⟩
   ·have:=Sp.tmsF_mem q (i+1) t ht
    show i<t.1;omega
   ·rcases List.mem_cons.1 ht with rfl|h
    ·exact ha
    ·exact ih.nz t h
theorem yt7: ∀(q:List Int) (i e:Int),cfL (Sp.tmsF i q) e=if i<=e then q.getD (e-i).toNat 0 else 0
 |[],i,e=>by simp [Sp.tmsF,cfL]
 |a::q,i,e=>by
  have ih:=yt7 q (i+1) e
  have hs:i+1<=e->(a::q).getD (e-i).toNat 0=q.getD (e-(i+1)).toNat 0:=fun h=>by
   rw [show (e-i).toNat=(e-(i+1)).toNat+1 by omega];simp
  unfold Sp.tmsF
  split
  ·rename_i ha
   rw [ih]
   by_cases h:i+1<=e
   ·rw [if_pos h,if_pos (by omega),hs h]
   ·rw [if_neg h]
    by_cases h2:i<=e
    ·rw [if_pos h2,show (e-i).toNat=0 by omega];simp [ha]
    ·rw [if_neg h2]
  ·simp only [cfL]
   rw [ih]
   by_cases h:i=e
   ·rw [if_pos h,if_neg (by omega),if_pos (by omega),show (e-i).toNat=0 by omega];simp
   ·rw [if_neg h]
    by_cases h2:i+1<=e
    ·rw [if_pos h2,if_pos (by omega),hs h2];omega
    ·rw [if_neg h2,if_neg (by omega)];rfl
theorem yzn (p:List (Int×Int)):Fn Tryd.prog 11 [plA false p] (.bool false):=by
 refine Fn.intro [.tmp 2] Tryd.func11 rfl rfl (by decide) (by simp [Tryd.ntmps11]) ?_;rw [Tryd.ntmps11]
 repeat' (first|omega|(try apply yaa);simp only [go_sem,sevalprocAttr]|apply yad<;>(intro h_;(try simp only [h_]);revert h_)|apply yac|apply yab|apply gspI|apply And.intro|with_reducible intro h_|trivial|simp only [go_sem,la2];omega)
theorem yk7 (s m:List Int) (L:Int):Fn Tryd.prog 3 [dgA s m L] (.bool true):=by
 have hA:=yqx
 have hG:=yqy s m L
 cases hg:grB s m L with
 |true=>
  rw [hg] at hG
  refine Fn.intro [.tmp 2] Tryd.func3 rfl rfl (by decide) (by simp [Tryd.ntmps3]) ?_;rw [Tryd.ntmps3]
  repeat' (first|omega|(try apply yaa);simp only [go_sem,sevalprocAttr,hA]|(refine ⟨yag.fn (r:=?_) rfl ?_ ?_⟩;rotate_left;assumption)|(refine ⟨yaw.fn (r:=?_) rfl ?_ ?_⟩;rotate_left;assumption)|apply yad<;>(intro h_;(try simp only [h_]);revert h_)|apply yac|apply yab|apply gspI|apply And.intro|with_reducible intro h_|trivial|simp only [go_sem,la2];omega)
 |false=>
 rw [hg] at hG
 cases hv:yaj s m L with
 |false=>
  have hP:=ywa s m L hv
  refine Fn.intro [.tmp 2] Tryd.func3 rfl rfl (by decide) (by simp [Tryd.ntmps3]) ?_;rw [Tryd.ntmps3]
  repeat' (first|omega|(try apply yaa);simp only [go_sem,sevalprocAttr,hA]|(refine ⟨yag.fn (r:=?_) rfl ?_ ?_⟩;rotate_left;assumption)|(refine ⟨yaw.fn (r:=?_) rfl ?_ ?_⟩;rotate_left;assumption)|apply yad<;>(intro h_;(try simp only [h_]);revert h_)|apply yac|apply yab|apply gspI|apply And.intro|with_reducible intro h_|trivial|simp only [go_sem,la2];omega)
 |true=>
 have v1:=yat hv
 have hl0:=v1.l0
 have hl1:=v1.l64
 have h64:=v1.s64
 simp only [grB,Bool.or_eq_false_iff,Bool.and_eq_false_iff,decide_eq_false_iff_not] at hg
 have hL:L<=10:=by omega
 by_cases hE:s.length=0/\L=0
 ·obtain ⟨hs,rfl⟩:=hE
  obtain rfl:s=[]:=List.eq_nil_of_length_eq_zero hs
  have hP:=ywb m hv
  refine Fn.intro [.tmp 2] Tryd.func3 rfl rfl (by decide) (by simp [Tryd.ntmps3]) ?_;rw [Tryd.ntmps3]
  repeat' (first|omega|(try apply yaa);simp only [go_sem,sevalprocAttr,hA]|(refine ⟨yag.fn (r:=?_) rfl ?_ ?_⟩;rotate_left;assumption)|(refine ⟨yaw.fn (r:=?_) rfl ?_ ?_⟩;rotate_left;assumption)|apply yad<;>(intro h_;(try simp only [h_]);revert h_)|apply yac|apply yab|apply gspI|apply And.intro|with_reducible intro h_|trivial|simp only [go_sem,la2];omega)
 by_cases hF:14<s.length
 ·have hP:=ywc s m L hv hF
  refine Fn.intro [.tmp 2] Tryd.func3 rfl rfl (by decide) (by simp [Tryd.ntmps3]) ?_;rw [Tryd.ntmps3]
  repeat' (first|omega|(try apply yaa);simp only [go_sem,sevalprocAttr,hA]|(refine ⟨yag.fn (r:=?_) rfl ?_ ?_⟩;rotate_left;assumption)|(refine ⟨yaw.fn (r:=?_) rfl ?_ ?_⟩;rotate_left;assumption)|apply yad<;>(intro h_;(try simp only [h_]);revert h_)|apply yac|apply yab|apply gspI|apply And.intro|with_reducible intro h_|trivial|simp only [go_sem,la2];omega)
 have hn:s.length<=7:=by omega
 obtain ⟨l,rfl⟩: ∃l:Nat,L=l:=⟨L.toNat,by omega⟩
 have hbl:=Sp.bc_le v1
 obtain ⟨q,q1,q2,q3,_,q5⟩:=Sp.conw (s.length*s.length+Sp.bc s m+1) s m l hv (by omega) (by omega) (Nat.le_refl _)
 have hP:Fn Tryd.prog 8 [dgA s m l] (.tup [plA false (Sp.tmsF 0 q),I 0]):=by
  by_cases h0:0<s.length
  ·exact ynf s m l _ _ hv h0 (by omega) q5
  ·obtain rfl:s=[]:=List.eq_nil_of_length_eq_zero (by omega)
   exact ywd m l _ _ hv (by simp at hE;omega) q5
 obtain ⟨s1,s2,s3⟩:=yjg _ s m l q hv (by omega) q1
 have hK:=yeu s m l
 rw [if_pos hv] at hK
 have hsl:=ydx s m
 have hml:=v1.len
 obtain ⟨C,hC⟩: ∃C:Nat,(yae s m).length+l=C:=⟨_,rfl⟩
 rw [show ((yae s m).length:Int)+l=(C:Int) by omega] at hK s1 s2 s3
 have hC1:1<=C:=by
  by_cases h:0<s.length
  ·have:=Sp.strands_pos v1 h;omega
  ·omega
 have hasc:=ypz q 0
 have hcf:=yt7 q 0
 have hlt:=Sp.tmsF_len q 0
 have hmem: ∀t∈Sp.tmsF 0 q,(C:Int)-1<=t.1/\t.1<=7:=fun t ht=>by
  have h1:=Sp.tmsF_mem q 0 t ht
  have h2:=yfa hasc ht
  rw [hcf,if_pos (by omega)] at h2
  have h3:=s1 (t.1-0).toNat (by rw [h2];exact h1.2.2.2)
  omega
 have hpar: ∀k:Int,(k-C+1)% 2≠0->cfL (Sp.tmsF 0 q) k=0:=fun k hk=>by
  rw [hcf]
  by_cases h:0<=k
  ·rw [if_pos h]
   apply Classical.byContradiction
   intro hne
   have:=s1 _ hne
   omega
  ·rw [if_neg h]
 have hc0:C=1->cfL (Sp.tmsF 0 q) 0=1:=fun h=>by rw [hcf,if_pos (by omega)];exact s2 (by omega)
 have hlk:C=2->Fn Tryd.prog 15 [dgA s m l,I 0,I 1] (.tup [I (cfL (Sp.tmsF 0 q) 1),I 0]):=fun h=>by
  obtain ⟨u,o,ha,hga⟩:=ywn hv
  have e:=yt6 hga 0 1 s.length (Nat.le_refl _)
  have h1:=yt5 s m l hv 0 1 (by omega) (by omega) (by omega) (by rw [e];exact ywl hv ha (by omega))
  rw [e] at h1
  have h2:=s3 (by omega) u o ha
  have e1:cfL (Sp.tmsF 0 q) 1=twK s u o 0 1 s.length/2:=by
   rw [hcf,if_pos (by omega)]
   show q.getD 1 0=_
   omega
  rw [e1];exact h1
 have hCo:=fun k=>yzl (Sp.tmsF 0 q) k hasc (by omega)
 have hZ:=yy4 (Sp.tmsF 0 q)
 have hB:=yzn (Sp.tmsF 0 q)
 generalize ht:Sp.tmsF 0 q=t at*
 clear hcf s1 s2 s3 q1 q5 hsl hbl
 by_cases hz:t.length=0
 ·have bz:((t.length:Int)==0)=true:=by rw [beq_iff_eq];omega
  rw [bz] at hZ
  have b1:decide ((1:Int)<C)=true:=by
   rw [decide_eq_true_iff]
   have:C≠1:=fun h=>by
    have:=hc0 h
    obtain rfl:t=[]:=List.eq_nil_of_length_eq_zero hz
    cases this
   omega
  refine Fn.intro [.tmp 2] Tryd.func3 rfl rfl (by decide) (by simp [Tryd.ntmps3]) ?_;rw [Tryd.ntmps3]
  repeat' (first|omega|(try apply yaa);simp only [go_sem,sevalprocAttr,hA,b1]|(refine ⟨yag.fn (r:=?_) rfl ?_ ?_⟩;rotate_left;assumption)|(refine ⟨yaw.fn (r:=?_) rfl ?_ ?_⟩;rotate_left;assumption)|apply yad<;>(intro h_;(try simp only [h_]);revert h_)|apply yac|apply yab|apply gspI|apply And.intro|with_reducible intro h_|trivial|simp only [go_sem,la2];omega)
 have bz:((t.length:Int)==0)=false:=by rw [beq_eq_false_iff_ne];omega
 rw [bz] at hZ
 have hLo:=yzm t (by omega)
 have hHi:=ywo t (by omega) (by omega)
 have hm0:=hmem (t.getD 0 (0,0)) (yk0 (by omega))
 have hm1:=hmem (t.getD (t.length-1) (0,0)) (yk0 (by omega))
 have hlohi:(t.getD 0 (0,0)).1<=(t.getD (t.length-1) (0,0)).1:=by
  by_cases h:t.length=1
  ·rw [h];exact Int.le_refl _
  ·have:=List.pairwise_iff_getElem.1 hasc.asc 0 (t.length-1) (by omega) (by omega) (by omega)
   simp only [List.getD_eq_getElem?_getD,List.getElem?_eq_getElem (show 0<t.length by omega),List.getElem?_eq_getElem (show t.length-1<t.length by omega),Option.getD_some]
   omega
 generalize (t.getD 0 (0,0)).1=lo at*
 generalize (t.getD (t.length-1) (0,0)).1=hi at*
 have b1:decide (lo<(C:Int)-1)=false:=by rw [decide_eq_false_iff_not];omega
 have b2:decide ((20:Int)<hi)=false:=by rw [decide_eq_false_iff_not];omega
 refine Fn.intro [.tmp 2] Tryd.func3 rfl rfl (by decide) (by simp [Tryd.ntmps3]) ?_;rw [Tryd.ntmps3]
 repeat' (first|omega|(try apply yaa);simp only [go_sem,sevalprocAttr,hA,b1,b2]|(refine ⟨yag.fn (r:=?_) rfl ?_ ?_⟩;rotate_left;assumption)|(refine ⟨yaw.fn (r:=?_) rfl ?_ ?_⟩;rotate_left;assumption)|apply yad<;>(intro h_;(try simp only [h_]);revert h_)|apply yac|apply yab|apply gspI|apply And.intro|with_reducible intro h_|trivial|simp only [go_sem,la2];omega)
 have hcC:(C:Int)<=8:=by omega
 refine ya0.intro (fun n' fr H=> ∃k:Int,lo<=k/\k<=hi+1/\n'=(hi+1-k).toNat/\fr=[(6,I k),(5,I C),(3, .ptr 1 0),(1, .ptr 0 0)]/\
  H=[(1, .cells 29 (.lst [.bool false,tmA t])),(0, .cells 24 (.lst [roI s,roI m,I l]))]) ?_ ?_
 ·refine ⟨_,_,_,Wk.sub ?_ ?_,lo,Int.le_refl _,by have:=hlohi;omega,rfl,rfl,rfl⟩
  ·simp only [go_sem,sevalprocAttr]
  ·simp only [go_sem,sevalprocAttr,yfm]
 rintro n' fr H ⟨k,hk0,hk1,rfl,rfl,rfl⟩
 by_cases hkh:k<=hi
 ·have bk:decide (k<=hi)=true:=decide_eq_true hkh
  have hk:=hCo k
  have hnext:(hi+1-(k+1)).toNat<(hi+1-k).toNat:=by omega
  by_cases hc:cfL t k=0
  ·have bc:(cfL t k !=0)=false:=by rw [bne_eq_false_iff_eq];exact hc
   repeat' (first|omega|(try apply yaa);simp only [go_sem,sevalprocAttr,bk,bc]|(refine ⟨yag.fn (r:=?_) rfl ?_ ?_⟩;rotate_left;assumption)|(refine ⟨yaw.fn (r:=?_) rfl ?_ ?_⟩;rotate_left;assumption)|apply yad<;>(intro h_;(try simp only [h_]);revert h_)|apply yac|apply yab|apply gspI|apply And.intro|with_reducible intro h_|trivial|simp only [go_sem,la2];omega)
   refine ⟨_,_,_,?_,Wk.sub ?_ ?_,k+1,by omega,by omega,rfl,rfl,rfl⟩
   ·exact hnext
   ·simp only [go_sem,sevalprocAttr]
   ·simp only [go_sem,sevalprocAttr,yfm]
  ·have bc:(cfL t k !=0)=true:=by rw [bne_iff_ne];exact hc
   have hp0:(k-C+1)% 2=0:=Classical.byContradiction fun h=>hc (hpar k h)
   have bp:((k-C+1).tmod 2 !=0)=false:=by
    rw [bne_eq_false_iff_eq]
    exact Int.tmod_eq_zero_of_dvd (Int.dvd_of_emod_eq_zero hp0)
   repeat' (first|omega|(try apply yaa);simp only [go_sem,sevalprocAttr,bk,bc,bp]|(refine ⟨yag.fn (r:=?_) rfl ?_ ?_⟩;rotate_left;assumption)|(refine ⟨yaw.fn (r:=?_) rfl ?_ ?_⟩;rotate_left;assumption)|apply yad<;>(intro h_;(try simp only [h_]);revert h_)|apply yac|apply yab|apply gspI|apply And.intro|with_reducible intro h_|trivial|simp only [go_sem,la2];omega)
   refine ⟨_,_,_,?_,Wk.sub ?_ ?_,k+1,by omega,by omega,rfl,rfl,rfl⟩
   ·exact hnext
   ·simp only [go_sem,sevalprocAttr]
   ·simp only [go_sem,sevalprocAttr,yfm]
 ·have bk:decide (k<=hi)=false:=decide_eq_false hkh
  by_cases h1:C=1
  ·have c1:((C:Int)==1)=true:=by rw [beq_iff_eq];omega
   have hk:=hCo 0
   rw [hc0 h1] at hk
   repeat' (first|omega|(try apply yaa);simp only [go_sem,sevalprocAttr,bk,c1]|(refine ⟨yag.fn (r:=?_) rfl ?_ ?_⟩;rotate_left;assumption)|(refine ⟨yaw.fn (r:=?_) rfl ?_ ?_⟩;rotate_left;assumption)|apply yad<;>(intro h_;(try simp only [h_]);revert h_)|apply yac|apply yab|apply gspI|apply And.intro|with_reducible intro h_|trivial|simp only [go_sem,la2];omega)
  have c1:((C:Int)==1)=false:=by rw [beq_eq_false_iff_ne];omega
  by_cases h2:C=2
  ·have c2:((C:Int)==2)=true:=by rw [beq_iff_eq];omega
   have hk:=hCo 1
   have hn2:=hlk h2
   generalize cfL t 1=z at*
   repeat' (first|omega|(try apply yaa);simp only [go_sem,sevalprocAttr,bk,c1,c2]|(refine ⟨yag.fn (r:=?_) rfl ?_ ?_⟩;rotate_left;assumption)|(refine ⟨yaw.fn (r:=?_) rfl ?_ ?_⟩;rotate_left;assumption)|apply yad<;>(intro h_;(try simp only [h_]);revert h_)|apply yac|apply yab|apply gspI|apply And.intro|with_reducible intro h_|trivial|simp only [go_sem,la2];omega)
  ·have c2:((C:Int)==2)=false:=by rw [beq_eq_false_iff_ne];omega
   repeat' (first|omega|(try apply yaa);simp only [go_sem,sevalprocAttr,bk,c1,c2]|(refine ⟨yag.fn (r:=?_) rfl ?_ ?_⟩;rotate_left;assumption)|(refine ⟨yaw.fn (r:=?_) rfl ?_ ?_⟩;rotate_left;assumption)|apply yad<;>(intro h_;(try simp only [h_]);revert h_)|apply yac|apply yab|apply gspI|apply And.intro|with_reducible intro h_|trivial|simp only [go_sem,la2];omega)
end Go.Proofs.YtcnilhcplgiidaaDoor
