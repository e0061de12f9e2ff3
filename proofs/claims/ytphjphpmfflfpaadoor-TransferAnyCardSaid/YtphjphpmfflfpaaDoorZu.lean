/- Plain: the width of the greedy order is at most 20 for at most 14 crossings. -/
import Derived.Test.YtphjphpmfflfpaaDoorZp
import Derived.Test.YtphjphpmfflfpaaDoorTb1
import Derived.Test.YtphjphpmfflfpaaDoorZt
import Derived.Test.YtphjphpmfflfpaaDoorTo2
import Derived.Test.YtphjphpmfflfpaaDoorZd
namespace Go.Proofs.YtphjphpmfflfpaaDoor
set_option linter.unusedVariables false
set_option linter.unusedSimpArgs false
theorem yzq {m:List Int} {n:Nat} (hm:ya3 m n) (hi: ∀x:Nat,x<4*n->m.getD (m.getD x 0).toNat 0=x) {o:List Int} (h:PrmL n o) (hl:o.length=n): ∀d k,k+d=n->ctN m o k<=4*(d:Int)
 |0,k,hk=>by
  obtain rfl:k=n:=by omega
  have:=ymp hm hi h k (by omega)
  rw [List.take_of_length_le (by omega)] at this
  rw [this,yob hm h hl o h.rg];omega
 |d+1,k,hk=>by
  have h1:=yzq hm hi h hl d (k+1) (by omega)
  have h2:=ygv m (o.take k) (o.getD k 0) 4
  simp only [ctN] at h1
  omega
theorem yj8 (m out:List Int): ∀c,0<=bsN m out c-> ∀x:Nat,x<c->(x:Int)∉out->eN m out x 4<=eN m out (bsN m out c).toNat 4
 |0,_,x,hx,_=>by omega
 |c+1,h,x,hx,ho=>by
  simp only [bsN] at h⊢
  by_cases hc:(c:Int)∈out
  ·rw [if_pos hc] at h⊢
   by_cases e:x=c
   ·subst e;exact absurd hc ho
   ·exact yj8 m out c h x (by omega) ho
  ·rw [if_neg hc] at h⊢
   by_cases g:bsN m out c<0\/eN m out (bsN m out c).toNat 4<eN m out c 4
   ·rw [if_pos g,Int.toNat_natCast]
    by_cases e:x=c
    ·subst e;exact Nat.le_refl _
    ·by_cases g0:bsN m out c<0
     ·exact absurd (ynq m out c g0 x (by omega)) ho
     ·have:=yj8 m out c (by omega) x (by omega) ho
      rcases g with g|g
      ·omega
      ·omega
   ·rw [if_neg g] at h⊢
    by_cases e:x=c
    ·subst e;omega
    ·exact yj8 m out c h x (by omega) ho
theorem yzr (m l:List Int) (c:Nat): ∀s,ctS m l c s<=(s:Int)-2*(eN m l c s:Int)+(if (c:Int)∈l then 2*(s:Int) else 0)
 |0=>by simp [ctS,eN]
 |s+1=>by
  have ih:=yzr m l c s
  simp only [ctS,eN]
  rw [show (4*(c:Int)+(s:Int)).toNat=4*c+s by omega]
  by_cases hc:(c:Int)∈l
  ·rw [if_pos hc] at ih⊢
   by_cases h1:m.getD (4*c+s) 0/4=(c:Int)
   ·rw [if_pos h1,if_pos (by rw [h1];exact hc)];omega
   ·rw [if_neg h1]
    split<;>omega
  ·rw [if_neg hc] at ih⊢
   by_cases h1:m.getD (4*c+s) 0/4=(c:Int)
   ·rw [if_pos h1,if_neg (by rw [h1];exact hc)];omega
   ·rw [if_neg h1]
    split<;>omega
theorem y3d {m out:List Int} {c:Nat}: ∀s,(∃t,t<s/\m.getD (4*c+t) 0/4∈out)->1<=eN m out c s
 |0,⟨t,ht,_⟩=>by omega
 |s+1,⟨t,ht,hm⟩=>by
  simp only [eN]
  by_cases e:t=s
  ·subst e;rw [if_pos hm];omega
  ·have:=y3d s ⟨t,by omega,hm⟩
   omega
theorem ysm {m l:List Int}: ∀r:List Int,(∀x∈r,eN m l x.toNat 4=4)->rfC m l r=0
 |[],_=>rfl
 |x::r,h=>by
  simp only [rfC,ysm r fun y hy=>h y (List.mem_cons_of_mem _ hy),h x (List.mem_cons_self ..)]
  rfl
theorem y6l {m:List Int} {n:Nat} (hm:ya3 m n) (hi: ∀x:Nat,x<4*n->m.getD (m.getD x 0).toNat 0=x) {l:List Int} (hl: ∀x∈l,0<=x/\x<n) (h0: ∀x:Nat,x<n->(x:Int)∉l->eN m l x 4=0):rfC m l l=0:=by
 refine ysm l fun c hc=>?_
 have hr:=hl c hc
 refine yr4 (fun s hs=>?_) 4 (Nat.le_refl _)
 rcases Classical.em (m.getD (4*c.toNat+s) 0/4∈l) with g|g
 ·exact g
 exfalso
 have h1:=hm.2 (4*c.toNat+s) (by omega)
 have h2:=hi (4*c.toNat+s) (by omega)
 have h3:=h0 (m.getD (4*c.toNat+s) 0/4).toNat (by omega) (by rwa [show (((m.getD (4*c.toNat+s) 0/4).toNat:Nat):Int)=m.getD (4*c.toNat+s) 0/4 by omega])
 have h4:=y3d (m:=m) (out:=l) (c:=(m.getD (4*c.toNat+s) 0/4).toNat) 4 ⟨((m.getD (4*c.toNat+s) 0)% 4).toNat,by omega,by
  rw [show 4*(m.getD (4*c.toNat+s) 0/4).toNat+((m.getD (4*c.toNat+s) 0)% 4).toNat=(m.getD (4*c.toNat+s) 0).toNat by omega,h2]
  rw [show ((4*c.toNat+s:Nat):Int)/4=c by omega]
  exact hc⟩
 omega
theorem ylv (m:List Int) (n:Nat): ∀k d,(orN m n (k+d)).take k=orN m n k
 |k,0=>by rw [Nat.add_zero,List.take_of_length_le (by rw [ycj];omega)]
 |k,d+1=>by
  rw [←Nat.add_assoc]
  simp only [orN]
  rw [List.take_append_of_le_length (by rw [ycj];omega)]
  exact ylv m n k d
theorem y6m (m:List Int) (n k d:Nat):(orN m n (k+1+d)).getD k 0=bsN m (orN m n k) n:=by
 have h:=ylv m n (k+1) d
 have h2:((orN m n (k+1+d)).take (k+1)).getD k 0=(orN m n (k+1+d)).getD k 0:=by
  simp only [List.getD_eq_getElem?_getD]
  rw [List.getElem?_take_of_lt (by omega)]
 rw [←h2,h]
 simp only [orN,List.getD_eq_getElem?_getD]
 rw [List.getElem?_append_right (by rw [ycj];omega),ycj,Nat.sub_self]
 rfl
theorem yzs {m:List Int} {n:Nat} (hm:ya3 m n) (hi: ∀x:Nat,x<4*n->m.getD (m.getD x 0).toNat 0=x): ∀k,k<=n->ctN m (orN m n n) k<=2*(k:Int)+2
 |0,_=>by simp [ctN]
 |k+1,hk=>by
  have ih:=yzs hm hi k (by omega)
  have hp:=yfg m n k (by omega)
  have hpn:=yfg m n n (Nat.le_refl _)
  have et:(orN m n n).take k=orN m n k:=by
   have:=ylv m n k (n-k)
   rwa [show k+(n-k)=n by omega] at this
  have eg:(orN m n n).getD k 0=bsN m (orN m n k) n:=by
   have:=y6m m n k (n-(k+1))
   rwa [show k+1+(n-(k+1))=n by omega] at this
  have hrf:=ymp hm hi hpn k (by rw [ycj];omega)
  have h0:0<=bsN m (orN m n k) n:=by
   have:=hpn.rg ((orN m n n).getD k 0) (by
    rw [List.getD_eq_getElem?_getD,List.getElem?_eq_getElem (show k<(orN m n n).length by rw [ycj];omega)]
    exact List.getElem_mem _)
   rw [eg] at this;exact this.1
  have hnot:=ynp m (orN m n k) n h0
  have hmx:=yj8 m (orN m n k) n h0
  have hcs:=yzr m (orN m n k) (bsN m (orN m n k) n).toNat 4
  rw [show (((bsN m (orN m n k) n).toNat:Nat):Int)=bsN m (orN m n k) n by omega,if_neg hnot] at hcs
  simp only [ctN,et,eg]
  rw [et] at hrf
  generalize ctS m (orN m n k) (bsN m (orN m n k) n) 4=z at*
  generalize eN m (orN m n k) (bsN m (orN m n k) n).toNat 4=e at*
  by_cases he:1<=e
  ·omega
  ·have:rfC m (orN m n k) (orN m n k)=0:=y6l hm hi hp.rg fun x hx hxo=>by
    have:=hmx x hx hxo;omega
   omega
theorem yu1 {m:List Int} {n:Nat} (hm:ya3 m n) (hi: ∀x:Nat,x<4*n->m.getD (m.getD x 0).toNat 0=x) (h14:n<=14): ∀k,k<=n->wdN m (orN m n n) k<=20
 |0,_=>by simp [wdN]
 |k+1,hk=>by
  have h1:=yu1 hm hi h14 k (by omega)
  have h2:=yzs hm hi (k+1) hk
  have h3:=yzq hm hi (yfg m n n (Nat.le_refl _)) (ycj m n n) (n-(k+1)) (k+1) (by omega)
  simp only [wdN]
  omega
end Go.Proofs.YtphjphpmfflfpaaDoor
namespace Go.Proofs.YtphjphpmfflfpaaDoor
open Go Go.RowKit
set_option maxRecDepth 100000
set_option maxHeartbeats 8000000
set_option linter.unusedVariables false
set_option linter.unusedSimpArgs false
theorem ygm {m:List Int} {n L:Nat} (hp:PmOk m n) (hn:n<=14) (hL:L<=20) {j:Nat} {e:Int} (he:brT m n L j e≠0): -500<=e/\e<=500:=by
 have h1:=ydm hp he
 have h2:=ycb hp (fun _=>true)
 have h3:=ycb hp (fun _=>false)
 omega
theorem ypf {m:List Int} {n L:Nat} (hp:PmOk m n) (hB:3*n+L<=48) {j:Nat} (hj:1<=j) (e:Int): -281474976710656<=brT m n L j e/\brT m n L j e<=281474976710656:=by
 have h1:=yua hp (L:=L) (j:=j) (M:=2*n+L) (by omega) e
 have h2:2^(2*n+L+n)<=2^48:=Nat.pow_le_pow_right (by omega) (by omega)
 omega
theorem ysn {m:List Int} {n L:Nat} (hp:PmOk m n) (hn:n<=14) (hL:L<=20):yas (brP m n L) (brT m n L 1):=ygl fun e he=>by have:=ygm hp hn hL he;omega
theorem y9h {s m:List Int} {L0:Int} (hv:yal s m L0=true) (hn:s.length<=14) (hn0:0<s.length) {L:Nat} (hL:L<=20) (hB:3*s.length+L<=48) {q:List (Int×Int)} (hq:yas q (dpw L)):
  Fn Tryd.prog 9 [plA false (ya8 (brT m s.length 0 1)),plA false q] (plA false (brP m s.length L)):=by
 have hp:=pmOk hv
 have hpp:yas (ya8 (brT m s.length 0 1)) (brT m s.length 0 1):=ysn hp hn (by omega)
 have hlast: ∀{r:List (Int×Int)},yas r (brT m s.length L 1)->r=brP m s.length L:=fun h=>h.eq fun e he=>by have:=ygm hp hn hL he;omega
 have hl:=yh9 hq
 by_cases hp0:0<(ya8 (brT m s.length 0 1)).length
 ·obtain ⟨r,h1,h2⟩:=yjz hpp hq (fun e he=>by have:=ygm hp hn (by omega) he;omega) (fun e he=>yfo (by omega) he) (fun e=>by have:=ypf hp (L:=0) (by omega) (j:=1) (Nat.le_refl _) e;omega) (fun e=>by have:=yfp hL e;omega) (h:=brT m s.length L 1) (fun e=>by
   rw [yj1,yj2 hp hn0 L e]
   exact ybh hpp.cf L e) (fun e=>by have:=ypf hp hB (j:=1) (Nat.le_refl _) e;omega) hp0 (by omega) (by
   obtain ⟨K,hK⟩:=y9g hv hn0
   have a:=hK.ok hK.pos hpp.asc hpp.cf hp0
   have k1:=hK.pos
   generalize (ya8 (brT m s.length 0 1)).length=x at*
   have e1:(K:Int)*((L:Int)+1)<=(x:Int)*q.length:=Int.mul_le_mul (by omega) (by omega) (by omega) (by omega)
   have e2:0<=((K:Int)-1)*(L:Int):=Int.mul_nonneg (by omega) (by omega)
   rw [Int.sub_mul] at e2
   rw [Int.mul_add] at e1
   rw [Int.mul_assoc]
   omega)
  rw [hlast h1] at h2
  exact h2
 ·have h0:ya8 (brT m s.length 0 1)=[]:=List.length_eq_zero_iff.1 (by omega)
  have hz: ∀e,brT m s.length 0 1 e=0:=fun e=>by rw [←hpp.cf,h0];rfl
  have:brP m s.length L=[]:=(hlast (yas.nil.congr fun e=>by rw [yj2 hp hn0 L e,ybh hz L e,ylk])).symm
  rw [h0,this]
  exact ynz q
theorem yso (s m:List Int) (L:Nat) (o:List Int) (hs:s.length<=14) (hL:L<=20) (hB:3*s.length+L<=48) (hv:yal s m L=true) (hpb:ybm o s.length=true) (hne: ¬(s.length=0/\L=0)) (hwd:wdN m o o.length<=20):Fn Tryd.prog 6 [dgA s m L,roI o] (.tup [plA false (brP m s.length L),I 0]):=
 yig s m L o hs hL hv hpb hne hwd fun h0 q hq=>y9h hv hs h0 hL hB hq
theorem y8a (s m:List Int) (L:Nat) (hs:s.length<=14) (hL:L<=20) (hB:3*s.length+L<=48) (hv:yal s m L=true) (hne: ¬(s.length=0/\L=0)):Fn Tryd.prog 6 [dgA s m L,roI (orN m s.length s.length)] (.tup [plA false (brP m s.length L),I 0]):=by
 have hp:=(yb2 hv).prd
 have hl:=ycj m s.length s.length
 refine yso s m L _ hs hL hB hv (ypc (yfg m s.length s.length (Nat.le_refl _)) hl) hne ?_
 rw [hl]
 exact yu1 hp.ok hp.inv hs s.length (Nat.le_refl _)
end Go.Proofs.YtphjphpmfflfpaaDoor
namespace Go.Proofs.YtphjphpmfflfpaaDoor
open Go Go.RowKit
set_option maxRecDepth 100000
set_option maxHeartbeats 8000000
set_option linter.unusedVariables false
set_option linter.unusedSimpArgs false
def yj9:Tr:= .node [(0, .node [(1, .node [(2, .node [(3, .node [(4, .node [(5, .node [(6, .node [(7, .node [(8, .node [(9, .done)])])]),(7, .node [(6, .node [(8, .node [(9, .done)])]),(8, .node [(6, .node [(9, .done)])])])]),(6, .node [(5, .node [(7, .node [(8, .node [(9, .done)])])]),(7, .node [(5, .node [(8, .node [(9, .done)])])])]),(7, .node [(5, .node [(6, .node [(8, .node [(9, .done)])]),(8, .node [(6, .node [(9, .done)])])]),(6, .node [(5, .node [(8, .node [(9, .done)])])])])])]),(7, .node [(3, .node [(4, .node [(5, .node [(6, .node [(8, .node [(9, .done)])]),(8, .node [(6, .node [(9, .done)])])]),(6, .node [(5, .node [(8, .node [(9, .done)])])])])])])]),(7, .node [(2, .node [(3, .node [(4, .node [(5, .node [(6, .node [(8, .node [(9, .done)])]),(8, .node [(6, .node [(9, .done)])])]),(6, .node [(5, .node [(8, .node [(9, .done)])])])])])])])]),(7, .node [(1, .node [(2, .node [(3, .node [(4, .node [(5, .node [(6, .node [(8, .node [(9, .done)])]),(8, .node [(6, .node [(9, .done)])])]),(6, .node [(5, .node [(8, .node [(9, .done)])])])])])])])])]),(1, .node [(0, .node [(2, .node [(3, .node [(4, .node [(5, .node [(6, .node [(7, .node [(8, .node [(9, .done)])])]),(7, .node [(6, .node [(8, .node [(9, .done)])]),(8, .node [(6, .node [(9, .done)])])])]),(6, .node [(5, .node [(7, .node [(8, .node [(9, .done)])])]),(7, .node [(5, .node [(8, .node [(9, .done)])])])]),(7, .node [(5, .node [(6, .node [(8, .node [(9, .done)])]),(8, .node [(6, .node [(9, .done)])])]),(6, .node [(5, .node [(8, .node [(9, .done)])])])])])]),(7, .node [(3, .node [(4, .node [(5, .node [(6, .node [(8, .node [(9, .done)])]),(8, .node [(6, .node [(9, .done)])])]),(6, .node [(5, .node [(8, .node [(9, .done)])])])])])])]),(7, .node [(2, .node [(3, .node [(4, .node [(5, .node [(6, .node [(8, .node [(9, .done)])]),(8, .node [(6, .node [(9, .done)])])]),(6, .node [(5, .node [(8, .node [(9, .done)])])])])])])])]),(2, .node [(0, .node [(3, .node [(4, .node [(5, .node [(6, .node [(7, .node [(8, .node [(9, .done)])])]),(7, .node [(6, .node [(8, .node [(9, .done)])]),(8, .node [(6, .node [(9, .done)])])])]),(6, .node [(5, .node [(7, .node [(8, .node [(9, .done)])])]),(7, .node [(5, .node [(8, .node [(9, .done)])])])]),(7, .node [(5, .node [(6, .node [(8, .node [(9, .done)])]),(8, .node [(6, .node [(9, .done)])])]),(6, .node [(5, .node [(8, .node [(9, .done)])])])])])]),(7, .node [(3, .node [(4, .node [(5, .node [(6, .node [(8, .node [(9, .done)])]),(8, .node [(6, .node [(9, .done)])])]),(6, .node [(5, .node [(8, .node [(9, .done)])])])])])])]),(7, .node [(0, .node [(3, .node [(4, .node [(5, .node [(6, .node [(8, .node [(9, .done)])]),(8, .node [(6, .node [(9, .done)])])]),(6, .node [(5, .node [(8, .node [(9, .done)])])])])])])])]),(7, .node [(0, .node [(2, .node [(3, .node [(4, .node [(5, .node [(6, .node [(8, .node [(9, .done)])]),(8, .node [(6, .node [(9, .done)])])]),(6, .node [(5, .node [(8, .node [(9, .done)])])])])])])]),(2, .node [(0, .node [(3, .node [(4, .node [(5, .node [(6, .node [(8, .node [(9, .done)])]),(8, .node [(6, .node [(9, .done)])])]),(6, .node [(5, .node [(8, .node [(9, .done)])])])])])])])])]),(7, .node [(0, .node [(1, .node [(2, .node [(3, .node [(4, .node [(5, .node [(6, .node [(8, .node [(9, .done)])]),(8, .node [(6, .node [(9, .done)])])]),(6, .node [(5, .node [(8, .node [(9, .done)])])])])])])])]),(1, .node [(0, .node [(2, .node [(3, .node [(4, .node [(5, .node [(6, .node [(8, .node [(9, .done)])]),(8, .node [(6, .node [(9, .done)])])]),(6, .node [(5, .node [(8, .node [(9, .done)])])])])])])]),(2, .node [(0, .node [(3, .node [(4, .node [(5, .node [(6, .node [(8, .node [(9, .done)])]),(8, .node [(6, .node [(9, .done)])])]),(6, .node [(5, .node [(8, .node [(9, .done)])])])])])])])])])]
def yka:List (List Nat):=[[8,9,4],[7,4],[7,4],[4],[4],[12,4],[11,4],[7,8,9,10,6,11,12],[12],[]]
def ftB (s m:List Int) (L:Int):Bool:=yal s m L&&(decide (s.length<=14)&&(decide (L<=6)&&decide (0<(s.length:Int)+L)))
theorem y6n (s m:List Int) (L:Int):Fn Tryd.prog 13 [dgA s m L] (.bool (ftB s m L)):=by
 have hV:=yhu s m L
 unfold ftB
 cases hv:yal s m L with
 |false=>
  rw [hv] at hV
  refine Fn.intro [.tmp 2] Tryd.func13 rfl rfl (by decide) (by simp [Tryd.ntmps13]) ?_;rw [Tryd.ntmps13]
  repeat' (first|omega|(try apply yaa);simp only [go_sem,sevalprocAttr,hV]|(refine ⟨yaf.fn (r:=?_) rfl ?_ ?_⟩;rotate_left;assumption)|(refine ⟨ya4.fn (r:=?_) rfl ?_ ?_⟩;rotate_left;assumption)|apply yad<;>(intro h_;(try simp only [h_]);revert h_)|apply yac|apply yab|apply gspI|apply And.intro|with_reducible intro h_|trivial|simp only [go_sem,la2];omega)
 |true=>
  rw [hv] at hV
  have v1:=yb2 hv
  have h64:=v1.s64
  have l0:=v1.l0
  have l64:=v1.l64
  rw [Bool.true_and]
  by_cases h1:s.length<=14
  ·have b1:decide ((s.length:Int)<=14)=true:=by rw [decide_eq_true_iff];omega
   have b1':decide (s.length<=14)=true:=by rw [decide_eq_true_iff];exact h1
   rw [b1',Bool.true_and]
   by_cases h2:L<=6
   ·have b2:decide (L<=6)=true:=by rw [decide_eq_true_iff];exact h2
    rw [b2,Bool.true_and]
    refine Fn.intro [.tmp 2] Tryd.func13 rfl rfl (by decide) (by simp [Tryd.ntmps13]) ?_;rw [Tryd.ntmps13]
    repeat' (first|omega|(try apply yaa);simp only [go_sem,sevalprocAttr,b1,b2]|(refine ⟨yaf.fn (r:=?_) rfl ?_ ?_⟩;rotate_left;assumption)|(refine ⟨ya4.fn (r:=?_) rfl ?_ ?_⟩;rotate_left;assumption)|apply yad<;>(intro h_;(try simp only [h_]);revert h_)|apply yac|apply yab|apply gspI|apply And.intro|with_reducible intro h_|trivial|simp only [go_sem,la2];omega)
   ·have b2:decide (L<=6)=false:=by rw [decide_eq_false_iff_not];exact h2
    rw [b2,Bool.false_and]
    refine Fn.intro [.tmp 2] Tryd.func13 rfl rfl (by decide) (by simp [Tryd.ntmps13]) ?_;rw [Tryd.ntmps13]
    repeat' (first|omega|(try apply yaa);simp only [go_sem,sevalprocAttr,b1,b2]|(refine ⟨yaf.fn (r:=?_) rfl ?_ ?_⟩;rotate_left;assumption)|(refine ⟨ya4.fn (r:=?_) rfl ?_ ?_⟩;rotate_left;assumption)|apply yad<;>(intro h_;(try simp only [h_]);revert h_)|apply yac|apply yab|apply gspI|apply And.intro|with_reducible intro h_|trivial|simp only [go_sem,la2];omega)
  ·have b1:decide ((s.length:Int)<=14)=false:=by rw [decide_eq_false_iff_not];omega
   have b1':decide (s.length<=14)=false:=by rw [decide_eq_false_iff_not];exact h1
   rw [b1',Bool.false_and]
   refine Fn.intro [.tmp 2] Tryd.func13 rfl rfl (by decide) (by simp [Tryd.ntmps13]) ?_;rw [Tryd.ntmps13]
   repeat' (first|omega|(try apply yaa);simp only [go_sem,sevalprocAttr,b1]|(refine ⟨yaf.fn (r:=?_) rfl ?_ ?_⟩;rotate_left;assumption)|(refine ⟨ya4.fn (r:=?_) rfl ?_ ?_⟩;rotate_left;assumption)|apply yad<;>(intro h_;(try simp only [h_]);revert h_)|apply yac|apply yab|apply gspI|apply And.intro|with_reducible intro h_|trivial|simp only [go_sem,la2];omega)
theorem y8b {s m:List Int} {L:Int} (h:ftB s m L=true):s.length<=14/\ ∃l:Nat,L=l/\l<=6/\yal s m l=true/\ ¬(s.length=0/\l=0):=by
 simp only [ftB,Bool.and_eq_true,decide_eq_true_eq] at h
 obtain ⟨hv,h1,h2,h3⟩:=h
 have l0:=(yb2 hv).l0
 obtain ⟨l,rfl⟩: ∃l:Nat,L=l:=⟨L.toNat,by omega⟩
 exact ⟨h1,l,rfl,by omega,hv,by omega⟩
theorem y8c (s m:List Int) (L:Nat) (hs:s.length<=14) (hL:L<=6) (hv:yal s m L=true) (hne: ¬(s.length=0/\L=0)):Fn Tryd.prog 17 [dgA s m L] (.tup [plA false (brP m s.length L), .bool true]):=by
 have hO:=yr7 s m L (by omega)
 rw [if_pos hv] at hO
 have hB:=y8a s m L hs (by omega) (by omega) hv hne
 generalize orN m s.length s.length=o at*
 generalize brP m s.length L=p at*
 refine Fn.introL [.cell 2 25, .tmp 3] Tryd.func17 rfl rfl (by decide) (by simp [Tryd.ntmps17]) ?_;rw [Tryd.ntmps17]
 repeat' (first|omega|(try apply yaa);simp only [go_sem,sevalprocAttr]|apply yad<;>(intro h_;(try simp only [h_]);revert h_)|apply yac|apply yab|apply gspI|apply And.intro|with_reducible intro h_|trivial|simp only [go_sem,la2];omega)
 repeat' (first|omega|(first|apply yaa|(refine yae.introE (id:=1) (yj9) (by decide+kernel) mixed ?_)|(refine yae.intro (id:=1) yka [[],[0],[0],[],[],[],[5],[0,1,2,3,4,5,6],[6],[]] (by decide+kernel) mixed ?_)|skip);simp only [go_sem,sevalprocAttr,Nat.le_refl,↓reduceIte,reduceCtorEq,yj9,yka]|apply yad<;>(intro h_;(try simp only [h_]);revert h_)|apply yac|apply yab|apply gspI|apply And.intro|with_reducible intro h_|trivial|simp only [go_sem,la2];omega)
 all_goals refine ⟨yaf.fn rfl hO ?_⟩
 all_goals (repeat' (first|omega|(first|apply yaa|(refine yae.introE (id:=1) (yj9) (by decide+kernel) mixed ?_)|(refine yae.intro (id:=1) yka [[],[0],[0],[],[],[],[5],[0,1,2,3,4,5,6],[6],[]] (by decide+kernel) mixed ?_)|skip);simp only [go_sem,sevalprocAttr,Nat.le_refl,↓reduceIte,reduceCtorEq,yj9,yka]|apply yad<;>(intro h_;(try simp only [h_]);revert h_)|apply yac|apply yab|apply gspI|apply And.intro|with_reducible intro h_|trivial|simp only [go_sem,la2];omega))
 all_goals refine ⟨yaf.fn rfl hB ?_⟩
 all_goals (repeat' (first|omega|(first|apply yaa|(refine yae.introE (id:=1) (yj9) (by decide+kernel) mixed ?_)|(refine yae.intro (id:=1) yka [[],[0],[0],[],[],[],[5],[0,1,2,3,4,5,6],[6],[]] (by decide+kernel) mixed ?_)|skip);simp only [go_sem,sevalprocAttr,Nat.le_refl,↓reduceIte,reduceCtorEq,yj9,yka]|apply yad<;>(intro h_;(try simp only [h_]);revert h_)|apply yac|apply yab|apply gspI|apply And.intro|with_reducible intro h_|trivial|simp only [go_sem,la2];omega))
 all_goals exact LeA.refl _
end Go.Proofs.YtphjphpmfflfpaaDoor
namespace Go.Proofs.YtphjphpmfflfpaaDoor
open Go Go.RowKit
set_option maxRecDepth 100000
set_option maxHeartbeats 8000000
set_option linter.unusedVariables false
set_option linter.unusedSimpArgs false
theorem y2q (l:List Int) (y x:Int):(l++[y]).contains x=(l.contains x||(y==x)):=by
 induction l with
 |nil=>
  by_cases h:y=x
  ·subst h;simp
  ·have h2: ¬x=y:=fun e=>h e.symm
   simp [h,h2]
 |cons a l ih=>simp only [List.cons_append,List.contains_cons,ih,Bool.or_assoc]
theorem yzt (l:List Int) (x:Int) (hl:l.length<=1000000):Fn Tryd.prog 36 [roI l,I x] (.bool (l.contains x)):=by
 refine Fn.intro [.tmp 4] Tryd.func36 rfl rfl (by decide) (by simp [Tryd.ntmps36]) ?_;rw [Tryd.ntmps36]
 repeat' (first|omega|(try apply yaa);simp only [go_sem,sevalprocAttr]|apply yad<;>(intro h_;(try simp only [h_]);revert h_)|apply yac|apply yab|apply gspI|apply And.intro|with_reducible intro h_|trivial|simp only [go_sem,la2];omega)
 refine yai.intro (fun n' fr H=> ∃i:Nat,i<=l.length/\(l.take i).contains x=false/\n'=l.length-i/\fr=[(5,I i),(1,I x),(0,roI l)]/\H=[]) ?_ ?_
 ·refine ⟨_,_,_,Wk.sub ?_ ?_,0,by omega,by simp,rfl,rfl,rfl⟩<;>(simp only [go_sem,sevalprocAttr])
 rintro n' fr H ⟨i,hi,hc,rfl,rfl,rfl⟩
 by_cases hil:i<l.length
 ·have bi:decide ((i:Int)<l.length)=true:=by simp;omega
  have hsn:=y2q (l.take i) (l.getD i 0) x
  rw [←yb8 hil,hc,Bool.false_or] at hsn
  cases hx:l.getD i 0==x with
  |true=>
   have hm:l.contains x=true:=by
    rw [List.contains_iff_mem]
    have:l.getD i 0=x:=by simpa using hx
    rw [←this,List.getD_eq_getElem?_getD,List.getElem?_eq_getElem hil]
    exact List.getElem_mem _
   rw [hm]
   repeat' (first|omega|(try apply yaa);simp only [go_sem,sevalprocAttr,bi,hx]|apply yad<;>(intro h_;(try simp only [h_]);revert h_)|apply yac|apply yab|apply gspI|apply And.intro|with_reducible intro h_|trivial|simp only [go_sem,la2];omega)
  |false=>
   rw [hx] at hsn
   repeat' (first|omega|(try apply yaa);simp only [go_sem,sevalprocAttr,bi,hx]|apply yad<;>(intro h_;(try simp only [h_]);revert h_)|apply yac|apply yab|apply gspI|apply And.intro|with_reducible intro h_|trivial|simp only [go_sem,la2];omega)
   refine ⟨_,_,_,?_,Wk.sub ?_ ?_,i+1,by omega,hsn,rfl,rfl,rfl⟩
   ·omega
   ·simp only [go_sem,sevalprocAttr]
   ·simp only [go_sem,sevalprocAttr]
 ·obtain rfl:i=l.length:=by omega
  have bi:decide ((l.length:Int)<l.length)=false:=by simp
  rw [List.take_length] at hc
  rw [hc]
  repeat' (first|omega|(try apply yaa);simp only [go_sem,sevalprocAttr,bi]|apply yad<;>(intro h_;(try simp only [h_]);revert h_)|apply yac|apply yab|apply gspI|apply And.intro|with_reducible intro h_|trivial|simp only [go_sem,la2];omega)
def ipN (o:List Int):Nat->Bool
 |0=>true
 |k+1=>ipN o k&&o.contains (k:Int)
theorem yof (o:List Int): ∀n,ipN o n=true↔ ∀c:Nat,c<n->(c:Int)∈o
 |0=>by simp [ipN]
 |n+1=>by
  simp only [ipN,Bool.and_eq_true,yof o n,List.contains_iff_mem]
  constructor
  ·rintro ⟨h1,h2⟩ c hc
   by_cases e:c=n
   ·rw [e];exact h2
   ·exact h1 c (by omega)
  ·exact fun h=>⟨fun c hc=>h c (by omega),h n (by omega)⟩
theorem ysp {o:List Int} {k:Nat} (h:ipN o k=false): ∀d,ipN o (k+d)=false
 |0=>h
 |d+1=>by rw [←Nat.add_assoc];simp only [ipN,ysp h d,Bool.false_and]
theorem ykt: ∀{l k:List Int},l.Nodup->(∀x∈l,x∈k)->k.length<=l.length->k.Perm l
 |[],k,_,_,h=>by
  obtain rfl:k=[]:=List.length_eq_zero_iff.1 (by simpa using h)
  exact List.Perm.refl _
 |x::l,k,hn,hs,h=>by
  have hx:=hs x (List.mem_cons_self ..)
  have hn':=List.nodup_cons.1 hn
  have h2:=ykt (l:=l) (k:=k.erase x) hn'.2 (fun y hy=>by
   have hne:y≠x:=fun e=>hn'.1 (e▸hy)
   exact (List.mem_erase_of_ne hne).2 (hs y (List.mem_cons_of_mem _ hy))) (by
   rw [List.length_erase_of_mem hx]
   simp only [List.length_cons] at h
   omega)
  exact (List.perm_cons_erase hx).trans (h2.cons x)
theorem y6o {o:List Int} {n:Nat} (hl:o.length=n):ybm o n=ipN o n:=by
 cases hp:ybm o n with
 |true=>
  obtain ⟨h1,h2⟩:=yd2 hp
  exact ((yof o n).2 fun c hc=>yut h1 h2 hc).symm
 |false=>
  cases hi:ipN o n with
  |false=>rfl
  |true=>
   exfalso
   have h:=(yof o n).1 hi
   have hnd:((List.range n).map (Nat.cast:Nat->Int)).Nodup:=by
    rw [List.nodup_iff_pairwise_ne,List.pairwise_map]
    exact (List.nodup_iff_pairwise_ne.1 List.nodup_range).imp fun h e=>h (by omega)
   have hp2:=ykt hnd (fun x hx=>by
    obtain ⟨c,hc,rfl⟩:=List.mem_map.1 hx
    exact h c (List.mem_range.1 hc)) (k:=o) (by simp [hl])
   have:ybm o n=true:=ypc ⟨hp2.nodup_iff.2 hnd,fun x hx=>by
    obtain ⟨c,hc,rfl⟩:=List.mem_map.1 (hp2.mem_iff.1 hx)
    have:=List.mem_range.1 hc
    omega⟩ hl
   rw [hp] at this;cases this
theorem ynd (o:List Int) (n:Nat) (ho:o.length<=100000) (hn:n<=100000):Fn Tryd.prog 14 [roI o,I n] (.bool (ybm o n)):=by
 by_cases hon:o.length=n
 ·have b0:((o.length:Int)!=(n:Int))=false:=by simp [hon]
  rw [y6o hon]
  refine Fn.intro [.tmp 4] Tryd.func14 rfl rfl (by decide) (by simp [Tryd.ntmps14]) ?_;rw [Tryd.ntmps14]
  repeat' (first|omega|(try apply yaa);simp only [go_sem,sevalprocAttr,b0]|apply yad<;>(intro h_;(try simp only [h_]);revert h_)|apply yac|apply yab|apply gspI|apply And.intro|with_reducible intro h_|trivial|simp only [go_sem,la2];omega)
  refine yai.intro (fun n' fr H=> ∃k:Nat,k<=n/\ipN o k=true/\n'=n-k/\fr=[(5,I k),(1,I n),(0,roI o)]/\H=[]) ?_ ?_
  ·refine ⟨_,_,_,Wk.sub ?_ ?_,0,by omega,rfl,rfl,rfl,rfl⟩<;>(simp only [go_sem,sevalprocAttr])
  rintro n' fr H ⟨k,hk,hip,rfl,rfl,rfl⟩
  by_cases hkn:k<n
  ·have bk:decide ((k:Int)<n)=true:=by simp;omega
   have hI:=yzt o k (by omega)
   have hst:ipN o (k+1)=o.contains (k:Int):=by simp only [ipN,hip,Bool.true_and]
   cases hc:o.contains (k:Int) with
   |true=>
    rw [hc] at hI hst
    repeat' (first|omega|(try apply yaa);simp only [go_sem,sevalprocAttr,bk]|apply yad<;>(intro h_;(try simp only [h_]);revert h_)|apply yac|apply yab|apply gspI|apply And.intro|with_reducible intro h_|trivial|simp only [go_sem,la2];omega)
    refine ⟨yaf.fn rfl hI ?_⟩
    repeat' (first|omega|(try apply yaa);simp only [go_sem,sevalprocAttr,bk]|apply yad<;>(intro h_;(try simp only [h_]);revert h_)|apply yac|apply yab|apply gspI|apply And.intro|with_reducible intro h_|trivial|simp only [go_sem,la2];omega)
    refine ⟨_,_,_,?_,Wk.sub ?_ ?_,k+1,by omega,hst,rfl,rfl,rfl⟩
    ·omega
    ·simp only [go_sem,sevalprocAttr]
    ·simp only [go_sem,sevalprocAttr]
   |false=>
    rw [hc] at hI hst
    have hf:=ysp hst (n-(k+1))
    rw [show k+1+(n-(k+1))=n by omega] at hf
    rw [hf]
    repeat' (first|omega|(try apply yaa);simp only [go_sem,sevalprocAttr,bk]|apply yad<;>(intro h_;(try simp only [h_]);revert h_)|apply yac|apply yab|apply gspI|apply And.intro|with_reducible intro h_|trivial|simp only [go_sem,la2];omega)
    refine ⟨yaf.fn rfl hI ?_⟩
    repeat' (first|omega|(try apply yaa);simp only [go_sem,sevalprocAttr,bk]|apply yad<;>(intro h_;(try simp only [h_]);revert h_)|apply yac|apply yab|apply gspI|apply And.intro|with_reducible intro h_|trivial|simp only [go_sem,la2];omega)
  ·obtain rfl:k=n:=by omega
   have bk:decide ((k:Int)<k)=false:=by simp
   rw [hip]
   repeat' (first|omega|(try apply yaa);simp only [go_sem,sevalprocAttr,bk]|apply yad<;>(intro h_;(try simp only [h_]);revert h_)|apply yac|apply yab|apply gspI|apply And.intro|with_reducible intro h_|trivial|simp only [go_sem,la2];omega)
 ·have b0:((o.length:Int)!=(n:Int))=true:=by simp;omega
  have hpB:ybm o n=false:=by unfold ybm;rw [show (o.length==n)=false by simpa using hon];rfl
  rw [hpB]
  refine Fn.intro [.tmp 4] Tryd.func14 rfl rfl (by decide) (by simp [Tryd.ntmps14]) ?_;rw [Tryd.ntmps14]
  repeat' (first|omega|(try apply yaa);simp only [go_sem,sevalprocAttr,b0]|apply yad<;>(intro h_;(try simp only [h_]);revert h_)|apply yac|apply yab|apply gspI|apply And.intro|with_reducible intro h_|trivial|simp only [go_sem,la2];omega)
end Go.Proofs.YtphjphpmfflfpaaDoor
set_option linter.unusedSimpArgs false
set_option linter.unusedVariables false
namespace Go.Proofs.YtphjphpmfflfpaaDoor
open Go Go.RowKit
end Go.Proofs.YtphjphpmfflfpaaDoor
