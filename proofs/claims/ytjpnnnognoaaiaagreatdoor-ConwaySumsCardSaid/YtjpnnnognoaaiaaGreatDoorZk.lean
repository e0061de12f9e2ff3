/- Layer 12: products of polynomials: the sums of the products. -/
import Derived.Test.YtjpnnnognoaaiaaGreatDoorZj
import Derived.Test.YtjpnnnognoaaiaaGreatDoorZf
set_option linter.unusedSimpArgs false
set_option linter.unusedVariables false
namespace Go.Proofs.YtjpnnnognoaaiaaGreatDoor
open Go Go.RowKit
set_option maxHeartbeats 8000000
set_option maxRecDepth 100000
theorem Wk.app {F A fr:Fr} {H H':Hp} (hA:subF F H' A) (hH:subH H H' H') (hfr: ∀t,fget fr t= .any\/s3 H' (fget fr t)=true) (h2: ∀t,1000000<=t->fget F t=fget (lft fr) t) (hl:A.all (fun q=>decide (q.1<1000000))=true):Wk F H (A++lft fr) H':=by
 have hf: ∀t,fget (A++lft fr) t= .any\/(fget (A++lft fr) t=fget F t/\s3 H' (fget (A++lft fr) t)=true):=by
  intro t
  have key: ∀(A:Fr),subF F H' A->A.all (fun q=>decide (q.1<1000000))=true->fget (A++lft fr) t= .any\/(fget (A++lft fr) t=fget F t/\s3 H' (fget (A++lft fr) t)=true):=by
   intro A
   induction A with
   |nil=>
    intro _ _
    rw [List.nil_append]
    rcases Nat.lt_or_ge t 1000000 with h|h
    ·left;rw [ygt,if_neg (by omega)]
    ·have e:=h2 t h
     rw [←e]
     rw [ygt,if_pos h] at e
     rcases hfr (t-1000000) with g|g
     ·left;rw [e];exact g
     ·right;exact ⟨rfl,by rw [e];exact g⟩
   |cons q A ih=>
    intro h1 h3
    obtain ⟨t',x⟩:=q
    obtain ⟨g1,g2,g3⟩:=h1
    simp only [List.all_cons,Bool.and_eq_true] at h3
    rw [List.cons_append]
    simp only [fget]
    split
    ·rename_i e;subst e;right;exact ⟨g1.symm,g2⟩
    ·exact ih g3 h3.2
  exact key A hA hl
 intro B w0 Mx N w ρ a hs
 refine ⟨ρ,(hs.weaken (fun id o ho=>(yfk hH id o ho).1) (fun t=>(hf t).imp id (·.1)) (fun id o ho M hr=>?_) (fun t M v hv=>?_))⟩
 ·have hso:=(yfk hH id o ho).2
  cases o with
  |gone=>trivial
  |cells t c=>
   obtain ⟨k1,arr,k2,k3,k4⟩:=hr
   refine ⟨k1,arr,k2,k3,fun j hj=>?_⟩
   obtain ⟨u,hu,hv⟩:=k4 j hj
   refine ⟨u,hu,?_⟩
   cases c with
   |ints l=>exact hv.pure1 rfl
   |bools l=>exact hv.pure1 rfl
   |lst l=>
    simp only [Cs.len] at hj
    simp only [Cs.get,List.getD_eq_getElem?_getD,List.getElem?_eq_getElem hj,Option.getD_some] at hv⊢
    exact hv.sc3 (List.all_eq_true.1 hso _ (List.getElem_mem hj))
  |gmap t ck l=>
   obtain ⟨es,k1,k2,k3⟩:=hr
   exact ⟨es,k1,k2,fun j e q he hl=>let ⟨g1,g2,g3⟩:=k3 j e q he hl;⟨g1,g2,g3.sc3 (List.all_eq_true.1 hso q (List.mem_of_getElem? hl))⟩⟩
  |iter mid s sn la=>
   obtain ⟨_,k2,k3⟩:=hr
   exact ⟨Option.isSome_iff_exists.1 hso,k2,k3⟩
  |imap t l=>
   obtain ⟨k0,es,ck,k1,k2,k3⟩:=hr
   exact ⟨k0,es,ck,k1,k2,fun j e k x he hl=>let ⟨g1,g2,g3⟩:=k3 j e k x he hl;⟨g1,g2.sc3 (List.all_eq_true.1 hso (k,x) (List.mem_of_getElem? hl)),g3⟩⟩
  |fmap t c=>exact hr
 ·rcases hf t with e|⟨_,e⟩
  ·rw [e];exact .any _
  ·exact hv.sc3 e
def wdC (zs:List Int):List AV:=zs.flatMap fun z=>[.int .u64 (z/18446744073709551616 % 18446744073709551616), .int .u64 (z % 18446744073709551616)]
theorem ytw (p:List Int):(wdC p).length=2*p.length:=by
 unfold wdC;induction p with
 |nil=>rfl
 |cons x p ih=>simp [ih];omega
theorem yq2 (p:List Int) (i:Nat) (h:i<p.length):(wdC p).getD (i*2) .any= .int .u64 (p.getD i 0/18446744073709551616 % 18446744073709551616):=by
 unfold wdC;induction p generalizing i with
 |nil=>simp at h
 |cons x p ih=>
  cases i with
  |zero=>simp
  |succ i=>
   have:=ih i (by simpa using h)
   simp only [List.flatMap_cons,List.getD_cons_succ]
   rw [show (i+1)*2=i*2+1+1 by omega]
   simpa using this
theorem yq3 (p:List Int) (i:Nat) (h:i<p.length):(wdC p).getD (i*2+1) .any= .int .u64 (p.getD i 0 % 18446744073709551616):=by
 unfold wdC;induction p generalizing i with
 |nil=>simp at h
 |cons x p ih=>
  cases i with
  |zero=>simp
  |succ i=>
   have:=ih i (by simpa using h)
   simp only [List.flatMap_cons,List.getD_cons_succ]
   rw [show (i+1)*2+1=i*2+1+1+1 by omega]
   simpa using this
theorem y51 (p:List Int) (i:Nat) (z:Int):((wdC p).set (i*2) (.int .u64 (z/18446744073709551616 % 18446744073709551616))).set (i*2+1) (.int .u64 (z % 18446744073709551616))=wdC (p.set i z):=by
 unfold wdC;induction p generalizing i with
 |nil=>simp
 |cons x p ih=>
  cases i with
  |zero=>simp
  |succ i=>
   have:=ih i
   simp only [List.flatMap_cons,List.set_cons_succ,List.cons_append,List.nil_append]
   rw [show (i+1)*2+1=i*2+1+1+1 by omega,show (i+1)*2=i*2+1+1 by omega]
   simp only [List.set_cons_succ]
   rw [this]
theorem y2o (n:Nat):(List.replicate n [AV.int .u64 0,AV.int .u64 0]).flatten=wdC (List.replicate n 0):=by
 unfold wdC;induction n with
 |zero=>rfl
 |succ n ih=>simp [List.replicate_succ,ih]
theorem ytx {p:List Int} {x:AV} (h:x∈wdC p): ∃n,x= .int .u64 n:=by
 simp only [wdC,List.mem_flatMap] at h
 obtain ⟨z,_,h⟩:=h
 simp at h
 rcases h with rfl|rfl<;>exact ⟨_,rfl⟩
theorem y7s (H:Hp) (p:List Int):(wdC p).all (s3 H)=true:=List.all_eq_true.2 fun x hx=>by obtain ⟨n,rfl⟩:=ytx hx;rfl
attribute [go_sem] y7s
theorem yyx (p:List (Int×Int)) (h:0<p.length):Fn Tryz.prog 52 [plA false p] (I (p.getD 0 (0,0)).1):=by
 have hc:=yc0 p
 have e:=yct p 0 h
 rw [Nat.zero_mul] at e
 have b0:((p.length:Int)==0)=false:=by rw [beq_eq_false_iff_ne];omega
 refine Fn.intro [.tmp 2] Tryz.func52 rfl rfl (by decide) (by simp [Tryz.ntmps52]) ?_;rw [Tryz.ntmps52]
 repeat' (first|omega|(try apply yaa);simp only [go_sem,sevalprocAttr,b0,e,hc]|apply yab<;>(intro h_;(try simp only [h_]);revert h_)|apply And.intro|with_reducible intro h_|trivial|simp only [go_sem,la2];omega)
theorem yty (p:List (Int×Int)) (h:0<p.length) (hp:p.length<=1000000):Fn Tryz.prog 53 [plA false p] (I (p.getD (p.length-1) (0,0)).1):=by
 have hc:=yc0 p
 have e:=yct p (p.length-1) (by omega)
 have b0:((p.length:Int)==0)=false:=by rw [beq_eq_false_iff_ne];omega
 have e1:((p.length:Int)-1).toNat=p.length-1:=by omega
 refine Fn.intro [.tmp 2] Tryz.func53 rfl rfl (by decide) (by simp [Tryz.ntmps53]) ?_;rw [Tryz.ntmps53]
 repeat' (first|omega|(try apply yaa);simp only [go_sem,sevalprocAttr,b0,e,e1,hc]|apply yab<;>(intro h_;(try simp only [h_]);revert h_)|apply And.intro|with_reducible intro h_|trivial|simp only [go_sem,la2];omega)
abbrev mulH (p q:List (Int×Int)) (low:Int) (N:Nat) (zs:List Int):Hp:=[(15, .cells 74 (.lst [.sl 2 14 0 N])),(14, .cells 78 (.lst (wdC zs))),(13, .cells 3 (.lst [I low])),(2, .cells 34 (.lst [.bool false, .nils])),(1, .cells 34 (.lst [.bool false,tmA q])),(0, .cells 34 (.lst [.bool false,tmA p]))]
end Go.Proofs.YtjpnnnognoaaiaaGreatDoor
set_option linter.unusedSimpArgs false
set_option linter.unusedVariables false
namespace Go.Proofs.YtjpnnnognoaaiaaGreatDoor
open Go Go.RowKit
set_option maxHeartbeats 8000000
set_option maxRecDepth 100000
def ym4:List (List Nat):=[[7,8,9,10,11,12,13,14,15,16,17],[6,8,10,11,12,13,14,15,16,17],[6,7,10,11,12,13,14,15,16,17],[6,10,11,12,13,14,15,16,17],[6,7,8,9,11,12,13,16],[6,7,8,9,10,12,16],[6,7,8,9,10,11,16],[6,7,8,9,10,16],[6,7,8,9,16],[6,7,8,9,16],[6,7,8,9,10,11,12,13,14,15],[6,7,8,9],[],[]]
def ym5:List (List Nat):=[[],[0],[0,1],[0],[0,1,2,3],[0,1,2,3,4],[0,1,2,3,4,5],[0,1,2,3,4],[0,1,2,3],[0,1,2,3],[0,1,2,3,4,5,6,7,8,9],[0,1,2,3],[],[]]
def yhy:List (List Nat):=[[25,26,27,28,29,30,31,32,33,34],[24,27,28,30,31,32,33,34],[24,27,28,30,31,32,33,34],[24,25,26,30,31,32,33,34],[24,25,26,30,31,32,33,34],[24,30,31,32,33,34],[24,25,26,27,28,29,32,33],[24,25,26,27,28,29,32,33],[24,25,26,27,28,29,30,31],[24,25,26,27,28,29,30,31],[24,25,26,27,28,29],[]]
def yhz:List (List Nat):=[[],[0],[0],[0,1,2],[0,1,2],[0],[0,1,2,3,4,5],[0,1,2,3,4,5],[0,1,2,3,4,5,6,7],[0,1,2,3,4,5,6,7],[0,1,2,3,4,5],[]]
abbrev prH (p q:List (Int×Int)) (low:Int) (N:Nat) (zs:List Int) (e1 c1 e2 c2:Int):Hp:=(19, .cells 62 (.lst [I e2,I c2]))::(18, .cells 62 (.lst [I e1,I c1]))::(17, .cells 34 (.lst [.bool false,tmA q]))::(16, .cells 34 (.lst [.bool false,tmA p]))::mulH p q low N zs
theorem yyy (p q:List (Int×Int)) (low:Int) (zs:List Int) (e1 c1 e2 c2 e w:Int) (N:Nat) (hN:zs.length=N) (hl: -2000000<=low/\low<=2000000) (he:low<=e/\e<low+N) (hN2:N<=4000000) {fr:Fr} {K:AV->Fr->Hp->Prop}
  (hK:K (.tup []) fr ((20, .cells 78 (.lst [.int .u64 (w/18446744073709551616 % 18446744073709551616), .int .u64 (w % 18446744073709551616)]))::prH p q low N (zs.set (e-low).toNat (zs.getD (e-low).toNat 0+w)) e1 c1 e2 c2)):
  yda Tryz.prog 56 [I e,wdA w, .ptr 15 0, .ptr 13 0] fr (prH p q low N zs e1 c1 e2 c2) K:=by
 have hi:(e-low).toNat<zs.length:=by omega
 have g0:=yq2 zs (e-low).toNat hi
 have g1:=yq3 zs (e-low).toNat hi
 have gl:=ytw zs
 have hA:=y50 (zs.getD (e-low).toNat 0) w
 have hS:=y51 zs (e-low).toNat (zs.getD (e-low).toNat 0+w)
 generalize hk:(e-low).toNat=k at*
 refine yda.intro [] Tryz.func56 rfl rfl (by decide) (by simp [Tryz.ntmps56]) ?_;rw [Tryz.ntmps56]
 repeat' (first|omega|(first|apply yaa|(refine yac.intro (id:=1) ym4 ym5 (by decide+kernel) mixed ?_)|skip);simp only [go_sem,sevalprocAttr,g0,g1,hk,↓reduceIte,reduceCtorEq,ym4,ym5]|apply yab<;>(intro h_;(try simp only [h_]);revert h_)|apply And.intro|with_reducible intro h_|trivial|simp only [go_sem,la2];omega)
 refine ⟨yap.fn rfl hA ?_⟩
 simp only [go_sem,sevalprocAttr,g0,g1,hk,hS]
 repeat' (first|omega|(first|apply yaa|(refine yac.intro (id:=1) ym4 ym5 (by decide+kernel) mixed ?_)|skip);simp only [go_sem,sevalprocAttr,g0,g1,hk,hS,↓reduceIte,reduceCtorEq,ym4,ym5]|apply yab<;>(intro h_;(try simp only [h_]);revert h_)|apply And.intro|with_reducible intro h_|trivial|simp only [go_sem,la2];omega)
 all_goals exact hK
theorem y29 {H:Hp}: ∀{fr:Fr},fr.all (fun q=>s3 H q.2)=true-> ∀t,fget fr t= .any\/s3 H (fget fr t)=true
 |[],_,t=> .inl rfl
 |(s,x)::r,h,t=>by
  simp only [List.all_cons,Bool.and_eq_true] at h
  simp only [fget]
  split
  ·exact .inr h.1
  ·exact y29 h.2 t
theorem ypc (p q:List (Int×Int)) (low:Int) (zs:List Int) (N:Nat) (hN:zs.length=N) (hl: -2000000<=low/\low<=2000000) (hN2:N<=4000000) (hp:yff p) (hq:yff q) (hpl:p.length<=500000) (hql:q.length<=500000)
  (hx: ∀i j,i<p.length->j<q.length->low<=(p.getD i (0,0)).1+(q.getD j (0,0)).1/\(p.getD i (0,0)).1+(q.getD j (0,0)).1<low+N) (hpe: ∀i,i<p.length-> -2000000<=(p.getD i (0,0)).1/\(p.getD i (0,0)).1<=2000000) (hqe: ∀i,i<q.length-> -2000000<=(q.getD i (0,0)).1/\(q.getD i (0,0)).1<=2000000)
  {fr:Fr} {K:AV->Fr->Hp->Prop} (hfr: ∀H':Hp,(hget H' 0).isSome=true->(hget H' 1).isSome=true->(hget H' 2).isSome=true->(hget H' 13).isSome=true->(hget H' 14).isSome=true->(hget H' 15).isSome=true-> ∀t,fget fr t= .any\/s3 H' (fget fr t)=true)
  (hK:K (.tup []) fr ((17, .cells 34 (.lst [.bool false,tmA q]))::(16, .cells 34 (.lst [.bool false,tmA p]))::mulH p q low N (pz1 p q low p.length zs))):
  yda Tryz.prog 55 [plA false p,plA false q, .fn 56 [.ptr 15 0, .ptr 13 0]] fr (mulH p q low N zs) K:=by
 have hcp:=yc0 p
 have hcq:=yc0 q
 refine yda.intro [] Tryz.func55 rfl rfl (by decide) (by simp [Tryz.ntmps55]) ?_;rw [Tryz.ntmps55]
 repeat' (first|omega|(try apply yaa);simp only [go_sem,sevalprocAttr]|apply yab<;>(intro h_;(try simp only [h_]);revert h_)|apply And.intro|with_reducible intro h_|trivial|simp only [go_sem,la2];omega)
 refine yaz.intro (fun n fr' H=> ∃i:Nat,i<=p.length/\n=p.length-i/\fr'=[(13,I i),(12,I p.length),(11,tmA p),(4, .ptr 17 0),(3, .ptr 16 0),(2, .fn 56 [.ptr 15 0, .ptr 13 0])]++lft fr/\H=(17, .cells 34 (.lst [.bool false,tmA q]))::(16, .cells 34 (.lst [.bool false,tmA p]))::mulH p q low N (pz1 p q low i zs)) ?_ ?_
 ·refine ⟨_,_,_,?_,0,by omega,rfl,rfl,rfl⟩
  refine Wk.app ?_ ?_ (hfr _ rfl rfl rfl rfl rfl rfl) (fun t ht=>?_) rfl<;>(simp only [go_sem,sevalprocAttr,yde,pz1])
  all_goals repeat rw [if_neg (by omega)]
 rintro n fr' H ⟨i,hi,rfl,rfl,rfl⟩
 by_cases hil:i<p.length
 ·have t0:=yct p i hil
  have t1:=yez p i hil
  have hpi:=hpe i hil
  have hci:=yf8 hp hil
  have hxi:=fun j=>hx i j hil
  have eP:pz1 p q low (i+1) zs=pz2 q low (p.getD i (0,0)).1 (p.getD i (0,0)).2 q.length (pz1 p q low i zs):=rfl
  obtain ⟨e1,he1⟩: ∃e1,e1=(p.getD i (0,0)).1:=⟨_,rfl⟩
  obtain ⟨c1,hc1⟩: ∃c1,c1=(p.getD i (0,0)).2:=⟨_,rfl⟩
  rw [←he1] at t0 hpi hxi eP
  rw [←hc1] at t1 hci eP
  clear he1 hc1
  have hzl:=yhw p q low i zs
  rw [hN] at hzl
  generalize pz1 p q low i zs=zs1 at*
  repeat' (first|omega|(try apply yaa);simp only [go_sem,sevalprocAttr,t0,t1,hcp]|apply yab<;>(intro h_;(try simp only [h_]);revert h_)|apply And.intro|with_reducible intro h_|trivial|simp only [go_sem,la2];omega)
  refine yaz.intro (fun n fr' H=> ∃j:Nat,j<=q.length/\n=q.length-j/\fr'=[(20,I j),(19,I q.length),(18,tmA q),(7, .ptr 18 0),(13,I i),(12,I p.length),(11,tmA p),(4, .ptr 17 0),(3, .ptr 16 0),(2, .fn 56 [.ptr 15 0, .ptr 13 0])]++lft fr/\H=(18, .cells 62 (.lst [I e1,I c1]))::(17, .cells 34 (.lst [.bool false,tmA q]))::(16, .cells 34 (.lst [.bool false,tmA p]))::mulH p q low N (pz2 q low e1 c1 j zs1)) ?_ ?_
  ·refine ⟨_,_,_,?_,0,by omega,rfl,rfl,rfl⟩
   refine Wk.app ?_ ?_ (hfr _ rfl rfl rfl rfl rfl rfl) (fun t ht=>?_) rfl<;>(simp only [go_sem,sevalprocAttr,yde,pz2])
   all_goals repeat rw [if_neg (by omega)]
  rintro n fr' H ⟨j,hj,rfl,rfl,rfl⟩
  by_cases hjl:j<q.length
  ·have s0:=yct q j hjl
   have s1:=yez q j hjl
   have hqj:=hqe j hjl
   have hcj:=yf8 hq hjl
   have hxj:=hxi j hjl
   have eQ:pz2 q low e1 c1 (j+1) zs1=(pz2 q low e1 c1 j zs1).set (e1+(q.getD j (0,0)).1-low).toNat ((pz2 q low e1 c1 j zs1).getD (e1+(q.getD j (0,0)).1-low).toNat 0+c1*(q.getD j (0,0)).2):=rfl
   obtain ⟨e2,he2⟩: ∃e2,e2=(q.getD j (0,0)).1:=⟨_,rfl⟩
   obtain ⟨c2,hc2⟩: ∃c2,c2=(q.getD j (0,0)).2:=⟨_,rfl⟩
   rw [←he2] at s0 hqj hxj eQ
   rw [←hc2] at s1 hcj eQ
   clear he2 hc2
   have hz2:=yke q low e1 c1 j zs1
   rw [hzl] at hz2
   have hP:=yvw c1 c2 (by omega) (by omega) (by omega) (by omega)
   repeat' (first|omega|(first|apply yaa|(refine yac.introL (id:=7) yhy yhz (by decide+kernel) mixed ?_)|(refine yac.intro (id:=7) yhy yhz (by decide+kernel) mixed ?_)|skip);simp only [go_sem,sevalprocAttr,s0,s1,hcq,↓reduceIte,reduceCtorEq,yhy,yhz]|apply yab<;>(intro h_;(try simp only [h_]);revert h_)|apply And.intro|with_reducible intro h_|trivial|simp only [go_sem,la2];omega)
   refine ⟨yap.fn rfl hP ?_⟩
   simp only [go_sem,sevalprocAttr,s0,s1,hcq]
   repeat' (first|omega|(first|apply yaa|(refine yac.introL (id:=7) yhy yhz (by decide+kernel) mixed ?_)|(refine yac.intro (id:=7) yhy yhz (by decide+kernel) mixed ?_)|skip);simp only [go_sem,sevalprocAttr,s0,s1,hcq,↓reduceIte,reduceCtorEq,yhy,yhz]|apply yab<;>(intro h_;(try simp only [h_]);revert h_)|apply And.intro|with_reducible intro h_|trivial|simp only [go_sem,la2];omega)
   refine ⟨yad.inline (yyy p q low (pz2 q low e1 c1 j zs1) e1 c1 e2 c2 (e1+e2) (c1*c2) N hz2 hl hxj hN2 ?_)⟩
   rw [←eQ]
   repeat' (first|omega|(try apply yaa);simp only [go_sem,sevalprocAttr]|apply yab<;>(intro h_;(try simp only [h_]);revert h_)|apply And.intro|with_reducible intro h_|trivial|simp only [go_sem,la2];omega)
   refine ⟨_,_,_,?_,?_,⟨j+1,by omega,rfl,rfl,rfl⟩⟩
   ·omega
   ·refine Wk.app (A:=[(20,I ((j+1:Nat):Int)),(19,I q.length),(18,tmA q),(7, .ptr 18 0),(13,I i),(12,I p.length),(11,tmA p),(4, .ptr 17 0),(3, .ptr 16 0),(2, .fn 56 [.ptr 15 0, .ptr 13 0])]) ?_ ?_ (hfr _ rfl rfl rfl rfl rfl rfl) (fun t ht=>?_) rfl<;>(simp only [go_sem,sevalprocAttr,yde])
    all_goals first|omega|repeat rw [if_neg (by omega)]
  ·obtain rfl:j=q.length:=by omega
   repeat' (first|omega|(try apply yaa);simp only [go_sem,sevalprocAttr]|apply yab<;>(intro h_;(try simp only [h_]);revert h_)|apply And.intro|with_reducible intro h_|trivial|simp only [go_sem,la2];omega)
   refine ⟨_,_,_,?_,?_,⟨i+1,by omega,rfl,rfl,rfl⟩⟩
   ·omega
   ·rw [eP]
    refine Wk.app (A:=[(13,I ((i+1:Nat):Int)),(12,I p.length),(11,tmA p),(4, .ptr 17 0),(3, .ptr 16 0),(2, .fn 56 [.ptr 15 0, .ptr 13 0])]) ?_ ?_ (hfr _ rfl rfl rfl rfl rfl rfl) (fun t ht=>?_) rfl<;>(simp only [go_sem,sevalprocAttr,yde])
    all_goals first|omega|repeat rw [if_neg (by omega)]
 ·obtain rfl:i=p.length:=by omega
  repeat' (first|omega|(try apply yaa);simp only [go_sem,sevalprocAttr]|apply yab<;>(intro h_;(try simp only [h_]);revert h_)|apply And.intro|with_reducible intro h_|trivial|simp only [go_sem,la2];omega)
  all_goals exact hK
end Go.Proofs.YtjpnnnognoaaiaaGreatDoor
