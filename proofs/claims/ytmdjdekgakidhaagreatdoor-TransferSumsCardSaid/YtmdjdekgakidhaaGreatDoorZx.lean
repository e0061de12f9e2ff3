/- Layer 17: the bracket along an order, at most 14 crossings (bounds by Euler's inequality). -/
import Derived.Test.YtmdjdekgakidhaaGreatDoorTb1
import Derived.Test.YtmdjdekgakidhaaGreatDoorZw
import Derived.Test.YtmdjdekgakidhaaGreatDoorZo
import Derived.Test.YtmdjdekgakidhaaGreatDoorZs
import Derived.Test.YtmdjdekgakidhaaGreatDoorZv
namespace Go.Proofs.YtmdjdekgakidhaaGreatDoor
open Go Go.RowKit
set_option maxRecDepth 100000
set_option maxHeartbeats 8000000
set_option linter.unusedVariables false
set_option linter.unusedSimpArgs false
theorem ybp {m:List Int} {n L:Nat} (hp:PmOk m n) (hn:n<=14) (hL:L<=20) {j:Nat} {e:Int} (he:brT m n L j e≠0): -500<=e/\e<=500:=by
 have h1:=yep hp he
 have h2:=ycx hp (fun _=>true)
 have h3:=ycx hp (fun _=>false)
 omega
theorem ygd {m:List Int} {n L:Nat} (hp:PmOk m n) (hB:3*n+L<=48) {j:Nat} (hj:1<=j) (e:Int): -281474976710656<=brT m n L j e/\brT m n L j e<=281474976710656:=by
 have h1:=yvr hp (L:=L) (j:=j) (M:=2*n+L) (by omega) e
 have h2:2^(2*n+L+n)<=2^48:=Nat.pow_le_pow_right (by omega) (by omega)
 omega
theorem yhh {m:List Int} {n L:Nat} (hp:PmOk m n) (hn:n<=14) (hL:L<=20):yao (brP m n L) (brT m n L 1):=ygc fun e he=>by have:=ybp hp hn hL he;omega
theorem lastG {s m:List Int} {L0:Int} (hv:yah s m L0=true) (hn:s.length<=14) (hn0:0<s.length) {L:Nat} (hL:L<=20) (hB:3*s.length+L<=48) {q:List (Int×Int)} (hq:yao q (dpw L)):
  Fn Tryz.prog 10 [plA false (ybl (brT m s.length 0 1)),plA false q] (plA false (brP m s.length L)):=by
 have hp:=pmOk hv
 have hpp:yao (ybl (brT m s.length 0 1)) (brT m s.length 0 1):=yhh hp hn (by omega)
 have hlast: ∀{r:List (Int×Int)},yao r (brT m s.length L 1)->r=brP m s.length L:=fun h=>h.eq fun e he=>by have:=ybp hp hn hL he;omega
 have hl:=yjl hq
 by_cases hp0:0<(ybl (brT m s.length 0 1)).length
 ·obtain ⟨r,h1,h2⟩:=yil hpp hq (fun e he=>by have:=ybp hp hn (by omega) he;omega) (fun e he=>ygu (by omega) he) (fun e=>by have:=ygd hp (L:=0) (by omega) (j:=1) (Nat.le_refl _) e;omega) (fun e=>by have:=ygv hL e;omega) (h:=brT m s.length L 1) (fun e=>by
   rw [ylf,ylg hp hn0 L e]
   exact ybs hpp.cf L e) (fun e=>by have:=ygd hp hB (j:=1) (Nat.le_refl _) e;omega) hp0 (by omega) (by
   obtain ⟨K,hK⟩:=denK0 hv hn0
   have a:=hK.ok hK.pos hpp.asc hpp.cf hp0
   have k1:=hK.pos
   generalize (ybl (brT m s.length 0 1)).length=x at*
   have e1:(K:Int)*((L:Int)+1)<=(x:Int)*q.length:=Int.mul_le_mul (by omega) (by omega) (by omega) (by omega)
   have e2:0<=((K:Int)-1)*(L:Int):=Int.mul_nonneg (by omega) (by omega)
   rw [Int.sub_mul] at e2
   rw [Int.mul_add] at e1
   rw [Int.mul_assoc]
   omega)
  rw [hlast h1] at h2
  exact h2
 ·have h0:ybl (brT m s.length 0 1)=[]:=List.length_eq_zero_iff.1 (by omega)
  have hz: ∀e,brT m s.length 0 1 e=0:=fun e=>by rw [←hpp.cf,h0];rfl
  have:brP m s.length L=[]:=(hlast (yao.nil.congr fun e=>by rw [ylg hp hn0 L e,ybs hz L e,ymu])).symm
  rw [h0,this]
  exact yo1 q
theorem yaa1 (s m:List Int) (L:Nat) (o:List Int) (hs:s.length<=14) (hL:L<=20) (hB:3*s.length+L<=48) (hv:yah s m L=true) (hpb:ydf o s.length=true) (hne: ¬(s.length=0/\L=0)) (hwd:wdN m o o.length<=20):Fn Tryz.prog 31 [dgA s m L,roI o] (.tup [plA false (brP m s.length L),I 0]):=
 yjr s m L o hs hL hv hpb hne hwd fun h0 q hq=>lastG hv hs h0 hL hB hq
theorem yaa2 (s m:List Int) (L:Nat) (hs:s.length<=14) (hL:L<=20) (hB:3*s.length+L<=48) (hv:yah s m L=true) (hne: ¬(s.length=0/\L=0)):Fn Tryz.prog 31 [dgA s m L,roI (orN m s.length s.length)] (.tup [plA false (brP m s.length L),I 0]):=by
 have hp:=(ya8 hv).prd
 have hl:=yc7 m s.length s.length
 refine yaa1 s m L _ hs hL hB hv (y1h (ygt m s.length s.length (Nat.le_refl _)) hl) hne ?_
 rw [hl]
 exact yws hp.ok hp.inv hs s.length (Nat.le_refl _)
end Go.Proofs.YtmdjdekgakidhaaGreatDoor
namespace Go.Proofs.YtmdjdekgakidhaaGreatDoor
open Go Go.RowKit
set_option maxRecDepth 100000
set_option maxHeartbeats 8000000
set_option linter.unusedVariables false
set_option linter.unusedSimpArgs false
def ylm:Tr:= .node [(0, .node [(1, .node [(2, .node [(3, .node [(4, .node [(5, .node [(6, .node [(7, .node [(8, .node [(9, .done)])])]),(7, .node [(6, .node [(8, .node [(9, .done)])]),(8, .node [(6, .node [(9, .done)])])])]),(6, .node [(5, .node [(7, .node [(8, .node [(9, .done)])])]),(7, .node [(5, .node [(8, .node [(9, .done)])])])]),(7, .node [(5, .node [(6, .node [(8, .node [(9, .done)])]),(8, .node [(6, .node [(9, .done)])])]),(6, .node [(5, .node [(8, .node [(9, .done)])])])])])]),(7, .node [(3, .node [(4, .node [(5, .node [(6, .node [(8, .node [(9, .done)])]),(8, .node [(6, .node [(9, .done)])])]),(6, .node [(5, .node [(8, .node [(9, .done)])])])])])])]),(7, .node [(2, .node [(3, .node [(4, .node [(5, .node [(6, .node [(8, .node [(9, .done)])]),(8, .node [(6, .node [(9, .done)])])]),(6, .node [(5, .node [(8, .node [(9, .done)])])])])])])])]),(7, .node [(1, .node [(2, .node [(3, .node [(4, .node [(5, .node [(6, .node [(8, .node [(9, .done)])]),(8, .node [(6, .node [(9, .done)])])]),(6, .node [(5, .node [(8, .node [(9, .done)])])])])])])])])]),(1, .node [(0, .node [(2, .node [(3, .node [(4, .node [(5, .node [(6, .node [(7, .node [(8, .node [(9, .done)])])]),(7, .node [(6, .node [(8, .node [(9, .done)])]),(8, .node [(6, .node [(9, .done)])])])]),(6, .node [(5, .node [(7, .node [(8, .node [(9, .done)])])]),(7, .node [(5, .node [(8, .node [(9, .done)])])])]),(7, .node [(5, .node [(6, .node [(8, .node [(9, .done)])]),(8, .node [(6, .node [(9, .done)])])]),(6, .node [(5, .node [(8, .node [(9, .done)])])])])])]),(7, .node [(3, .node [(4, .node [(5, .node [(6, .node [(8, .node [(9, .done)])]),(8, .node [(6, .node [(9, .done)])])]),(6, .node [(5, .node [(8, .node [(9, .done)])])])])])])]),(7, .node [(2, .node [(3, .node [(4, .node [(5, .node [(6, .node [(8, .node [(9, .done)])]),(8, .node [(6, .node [(9, .done)])])]),(6, .node [(5, .node [(8, .node [(9, .done)])])])])])])])]),(2, .node [(0, .node [(3, .node [(4, .node [(5, .node [(6, .node [(7, .node [(8, .node [(9, .done)])])]),(7, .node [(6, .node [(8, .node [(9, .done)])]),(8, .node [(6, .node [(9, .done)])])])]),(6, .node [(5, .node [(7, .node [(8, .node [(9, .done)])])]),(7, .node [(5, .node [(8, .node [(9, .done)])])])]),(7, .node [(5, .node [(6, .node [(8, .node [(9, .done)])]),(8, .node [(6, .node [(9, .done)])])]),(6, .node [(5, .node [(8, .node [(9, .done)])])])])])]),(7, .node [(3, .node [(4, .node [(5, .node [(6, .node [(8, .node [(9, .done)])]),(8, .node [(6, .node [(9, .done)])])]),(6, .node [(5, .node [(8, .node [(9, .done)])])])])])])]),(7, .node [(0, .node [(3, .node [(4, .node [(5, .node [(6, .node [(8, .node [(9, .done)])]),(8, .node [(6, .node [(9, .done)])])]),(6, .node [(5, .node [(8, .node [(9, .done)])])])])])])])]),(7, .node [(0, .node [(2, .node [(3, .node [(4, .node [(5, .node [(6, .node [(8, .node [(9, .done)])]),(8, .node [(6, .node [(9, .done)])])]),(6, .node [(5, .node [(8, .node [(9, .done)])])])])])])]),(2, .node [(0, .node [(3, .node [(4, .node [(5, .node [(6, .node [(8, .node [(9, .done)])]),(8, .node [(6, .node [(9, .done)])])]),(6, .node [(5, .node [(8, .node [(9, .done)])])])])])])])])]),(7, .node [(0, .node [(1, .node [(2, .node [(3, .node [(4, .node [(5, .node [(6, .node [(8, .node [(9, .done)])]),(8, .node [(6, .node [(9, .done)])])]),(6, .node [(5, .node [(8, .node [(9, .done)])])])])])])])]),(1, .node [(0, .node [(2, .node [(3, .node [(4, .node [(5, .node [(6, .node [(8, .node [(9, .done)])]),(8, .node [(6, .node [(9, .done)])])]),(6, .node [(5, .node [(8, .node [(9, .done)])])])])])])]),(2, .node [(0, .node [(3, .node [(4, .node [(5, .node [(6, .node [(8, .node [(9, .done)])]),(8, .node [(6, .node [(9, .done)])])]),(6, .node [(5, .node [(8, .node [(9, .done)])])])])])])])])])]
def yln:List (List Nat):=[[8,9,4],[7,4],[7,4],[4],[4],[12,4],[11,4],[7,8,9,10,6,11,12],[12],[]]
def ftB (s m:List Int) (L:Int):Bool:=yah s m L&&(decide (s.length<=14)&&(decide (L<=6)&&decide (0<(s.length:Int)+L)))
theorem ywt (s m:List Int) (L:Int):Fn Tryz.prog 6 [dgA s m L] (.bool (ftB s m L)):=by
 have hV:=ycc s m L
 unfold ftB
 cases hv:yah s m L with
 |false=>
  rw [hv] at hV
  refine Fn.intro [.tmp 2] Tryz.func6 rfl rfl (by decide) (by simp [Tryz.ntmps6]) ?_;rw [Tryz.ntmps6]
  repeat' (first|omega|(try apply yaa);simp only [go_sem,sevalprocAttr,hV]|(refine ⟨yaf.fn (r:=?_) rfl ?_ ?_⟩;rotate_left;assumption)|(refine ⟨yak.fn (r:=?_) rfl ?_ ?_⟩;rotate_left;assumption)|apply yad<;>(intro h_;(try simp only [h_]);revert h_)|apply yac|apply yab|apply gspI|apply And.intro|with_reducible intro h_|trivial|simp only [go_sem,la2];omega)
 |true=>
  rw [hv] at hV
  have v1:=ya8 hv
  have h64:=v1.s64
  have l0:=v1.l0
  have l64:=v1.l64
  rw [Bool.true_and]
  by_cases h1:s.length<=14
  ·have b1:decide ((s.length:Int)<=14)=true:=by rw [decide_eq_true_iff];omega
   have b1':decide (s.length<=14)=true:=by rw [decide_eq_true_iff];exact h1
   rw [b1',Bool.true_and]
   by_cases h2:L<=6
   ·have b2:decide (L<=6)=true:=by rw [decide_eq_true_iff];exact h2
    rw [b2,Bool.true_and]
    refine Fn.intro [.tmp 2] Tryz.func6 rfl rfl (by decide) (by simp [Tryz.ntmps6]) ?_;rw [Tryz.ntmps6]
    repeat' (first|omega|(try apply yaa);simp only [go_sem,sevalprocAttr,b1,b2]|(refine ⟨yaf.fn (r:=?_) rfl ?_ ?_⟩;rotate_left;assumption)|(refine ⟨yak.fn (r:=?_) rfl ?_ ?_⟩;rotate_left;assumption)|apply yad<;>(intro h_;(try simp only [h_]);revert h_)|apply yac|apply yab|apply gspI|apply And.intro|with_reducible intro h_|trivial|simp only [go_sem,la2];omega)
   ·have b2:decide (L<=6)=false:=by rw [decide_eq_false_iff_not];exact h2
    rw [b2,Bool.false_and]
    refine Fn.intro [.tmp 2] Tryz.func6 rfl rfl (by decide) (by simp [Tryz.ntmps6]) ?_;rw [Tryz.ntmps6]
    repeat' (first|omega|(try apply yaa);simp only [go_sem,sevalprocAttr,b1,b2]|(refine ⟨yaf.fn (r:=?_) rfl ?_ ?_⟩;rotate_left;assumption)|(refine ⟨yak.fn (r:=?_) rfl ?_ ?_⟩;rotate_left;assumption)|apply yad<;>(intro h_;(try simp only [h_]);revert h_)|apply yac|apply yab|apply gspI|apply And.intro|with_reducible intro h_|trivial|simp only [go_sem,la2];omega)
  ·have b1:decide ((s.length:Int)<=14)=false:=by rw [decide_eq_false_iff_not];omega
   have b1':decide (s.length<=14)=false:=by rw [decide_eq_false_iff_not];exact h1
   rw [b1',Bool.false_and]
   refine Fn.intro [.tmp 2] Tryz.func6 rfl rfl (by decide) (by simp [Tryz.ntmps6]) ?_;rw [Tryz.ntmps6]
   repeat' (first|omega|(try apply yaa);simp only [go_sem,sevalprocAttr,b1]|(refine ⟨yaf.fn (r:=?_) rfl ?_ ?_⟩;rotate_left;assumption)|(refine ⟨yak.fn (r:=?_) rfl ?_ ?_⟩;rotate_left;assumption)|apply yad<;>(intro h_;(try simp only [h_]);revert h_)|apply yac|apply yab|apply gspI|apply And.intro|with_reducible intro h_|trivial|simp only [go_sem,la2];omega)
theorem y1y {s m:List Int} {L:Int} (h:ftB s m L=true):s.length<=14/\ ∃l:Nat,L=l/\l<=6/\yah s m l=true/\ ¬(s.length=0/\l=0):=by
 simp only [ftB,Bool.and_eq_true,decide_eq_true_eq] at h
 obtain ⟨hv,h1,h2,h3⟩:=h
 have l0:=(ya8 hv).l0
 obtain ⟨l,rfl⟩: ∃l:Nat,L=l:=⟨L.toNat,by omega⟩
 exact ⟨h1,l,rfl,by omega,hv,by omega⟩
theorem yip (s m:List Int) (L:Nat) (hs:s.length<=14) (hL:L<=6) (hv:yah s m L=true) (hne: ¬(s.length=0/\L=0)):Fn Tryz.prog 7 [dgA s m L] (.tup [plA false (brP m s.length L), .bool true]):=by
 have hO:=ytj s m L (by omega)
 rw [if_pos hv] at hO
 have hB:=yaa2 s m L hs (by omega) (by omega) hv hne
 generalize orN m s.length s.length=o at*
 generalize brP m s.length L=p at*
 refine Fn.introL [.cell 2 29, .tmp 3] Tryz.func7 rfl rfl (by decide) (by simp [Tryz.ntmps7]) ?_;rw [Tryz.ntmps7]
 repeat' (first|omega|(try apply yaa);simp only [go_sem,sevalprocAttr]|apply yad<;>(intro h_;(try simp only [h_]);revert h_)|apply yac|apply yab|apply gspI|apply And.intro|with_reducible intro h_|trivial|simp only [go_sem,la2];omega)
 repeat' (first|omega|(first|apply yaa|(refine yae.introE (id:=1) (ylm) (by decide+kernel) mixed ?_)|(refine yae.intro (id:=1) yln [[],[0],[0],[],[],[],[5],[0,1,2,3,4,5,6],[6],[]] (by decide+kernel) mixed ?_)|skip);simp only [go_sem,sevalprocAttr,Nat.le_refl,↓reduceIte,reduceCtorEq,ylm,yln]|apply yad<;>(intro h_;(try simp only [h_]);revert h_)|apply yac|apply yab|apply gspI|apply And.intro|with_reducible intro h_|trivial|simp only [go_sem,la2];omega)
 all_goals refine ⟨yaf.fn rfl hO ?_⟩
 all_goals (repeat' (first|omega|(first|apply yaa|(refine yae.introE (id:=1) (ylm) (by decide+kernel) mixed ?_)|(refine yae.intro (id:=1) yln [[],[0],[0],[],[],[],[5],[0,1,2,3,4,5,6],[6],[]] (by decide+kernel) mixed ?_)|skip);simp only [go_sem,sevalprocAttr,Nat.le_refl,↓reduceIte,reduceCtorEq,ylm,yln]|apply yad<;>(intro h_;(try simp only [h_]);revert h_)|apply yac|apply yab|apply gspI|apply And.intro|with_reducible intro h_|trivial|simp only [go_sem,la2];omega))
 all_goals refine ⟨yaf.fn rfl hB ?_⟩
 all_goals (repeat' (first|omega|(first|apply yaa|(refine yae.introE (id:=1) (ylm) (by decide+kernel) mixed ?_)|(refine yae.intro (id:=1) yln [[],[0],[0],[],[],[],[5],[0,1,2,3,4,5,6],[6],[]] (by decide+kernel) mixed ?_)|skip);simp only [go_sem,sevalprocAttr,Nat.le_refl,↓reduceIte,reduceCtorEq,ylm,yln]|apply yad<;>(intro h_;(try simp only [h_]);revert h_)|apply yac|apply yab|apply gspI|apply And.intro|with_reducible intro h_|trivial|simp only [go_sem,la2];omega))
 all_goals exact LeA.refl _
end Go.Proofs.YtmdjdekgakidhaaGreatDoor
namespace Go.Proofs.YtmdjdekgakidhaaGreatDoor
open Go Go.RowKit
set_option maxRecDepth 100000
set_option maxHeartbeats 8000000
set_option linter.unusedVariables false
set_option linter.unusedSimpArgs false
theorem yut:Fn Tryz.prog 11 [] (plA false [(-2,-1),(2,-1)]):=by
 have hd:=y1j
 refine Fn.introL [.cell 0 29] Tryz.func11 rfl rfl (by decide) (by simp [Tryz.ntmps11]) ?_;rw [Tryz.ntmps11]
 repeat' (first|omega|(try apply yaa);simp only [go_sem,sevalprocAttr]|apply yad<;>(intro h_;(try simp only [h_]);revert h_)|apply yac|apply yab|apply gspI|apply And.intro|with_reducible intro h_|trivial|simp only [go_sem,la2];omega)
 refine ⟨yaf.frz [1] rfl (by simp only [go_sem,sevalprocAttr,Nat.le_refl]) (by simp only [go_sem,sevalprocAttr,Nat.le_refl]) (by simp only [go_sem,sevalprocAttr,Nat.le_refl]) (by simp only [go_sem,sevalprocAttr,Nat.le_refl]) rfl rfl rfl (yaf.fn rfl hd ?_)⟩
 repeat' (first|omega|(try apply yaa);simp only [go_sem,sevalprocAttr]|apply yad<;>(intro h_;(try simp only [h_]);revert h_)|apply yac|apply yab|apply gspI|apply And.intro|with_reducible intro h_|trivial|simp only [go_sem,la2];omega)
 all_goals exact LeA.refl _
end Go.Proofs.YtmdjdekgakidhaaGreatDoor
set_option linter.unusedSimpArgs false
set_option linter.unusedVariables false
namespace Go.Proofs.YtmdjdekgakidhaaGreatDoor
open Go Go.RowKit
set_option maxRecDepth 100000
set_option maxHeartbeats 8000000
theorem powN {a:Int} (h:a≠0): ∀k:Nat,a^k≠0
 |0=>by rw [Int.pow_zero];decide
 |k+1=>by rw [Int.pow_succ];exact Int.mul_ne_zero (powN h k) h
theorem y86 {m:List Int} {n L:Nat} (hp:PmOk m n) (hs:n<=9) (hL:L<=20):yao (brP m n L) (brT m n L 1):=ygc fun e he=>ygs hp hs hL (by omega) he
theorem ywu {m:List Int} {n L:Nat} (hp:PmOk m n) (hm:m.length=4*n) (h0: ¬(n=0/\L=0)) (hs:n<=9) (hL:L<=20):0<(brP m n L).length:=by
 have hP:=y86 hp hs hL
 have hev:evL (brP m n L)≠0:=by
  rw [←ywm 1000 (brP m n L) fun t ht=>ygs hp hs hL (j:=1) (by omega) (hP.mem ht).2,show cfL (brP m n L)=brT m n L 1 from funext hP.cf]
  have h1:=y8y (K:=2^n) (c:=cN m n L) (w:=wB n) 1 1000 fun k _ hk=>by
   have a:=yxx hp (L:=L) k
   have b:=yo2 k n
   unfold wB;omega
  have h2:evF (brT m n L 1) 1000=sm (fun k=>(-2:Int)^(cN m n L k-1)) (2^n):=Eq.trans h1 (yap fun k _=>by rw [if_pos (yhg hp h0 k)])
  rw [h2]
  by_cases hn:0<n
  ·rw [yaau hp hn L]
   exact Int.mul_ne_zero (powN (by decide) _) (powN (by decide) _)
  ·have hn0:n=0:=by omega
   subst hn0
   simp only [Nat.pow_zero,sm]
   rw [show (0:Int)+(-2)^(cN m 0 L 0-1)=(-2)^(cN m 0 L 0-1) by omega]
   exact powN (by decide) _
 cases h:brP m n L with
 |nil=>rw [h] at hev;exact absurd rfl hev
 |cons t p=>simp
theorem yaa3 {m1 m2:List Int} {n1 n2 L1 L2:Nat} (hp1:PmOk m1 n1) (hp2:PmOk m2 n2) (hpu:PmOk (Sp.unM m1 m2) (n1+n2)) (h1: ¬(n1=0/\L1=0)) (h2: ¬(n2=0/\L2=0)) (k:Nat):2<=cN (Sp.unM m1 m2) (n1+n2) (L1+L2) k:=by
 unfold cN
 rw [ykn hp1 hp2 hpu]
 have a:1<=cirS m1 n1 (chB k)+L1:=by
  by_cases hn:0<n1
  ·have:=yfm hp1 (chB k) hn;omega
  ·omega
 have b:1<=cirS m2 n2 (fun c=>chB k (n1+c))+L2:=by
  by_cases hn:0<n2
  ·have:=yfm hp2 (fun c=>chB k (n1+c)) hn;omega
  ·omega
 omega
end Go.Proofs.YtmdjdekgakidhaaGreatDoor
namespace Go.Proofs.YtmdjdekgakidhaaGreatDoor
open Go Go.RowKit
set_option maxRecDepth 100000
set_option maxHeartbeats 8000000
set_option linter.unusedVariables false
set_option linter.unusedSimpArgs false
theorem yaa4 {s1 m1 s2 m2:List Int} {L1 L2:Nat} (hv1:yah s1 m1 L1=true) (hv2:yah s2 m2 L2=true) (hpu:PmOk (Sp.unM m1 m2) (s1.length+s2.length)) (h1: ¬(s1.length=0/\L1=0)) (h2: ¬(s2.length=0/\L2=0)) (hn1:s1.length<=7) (hn2:s2.length<=7) (hL:L1+L2<=6):
  ∃r,yao r (brT (Sp.unM m1 m2) (s1.length+s2.length) (L1+L2) 2)/\Fn Tryz.prog 10 [plA false (brP m1 s1.length L1),plA false (brP m2 s2.length L2)] (plA false r)/\
   Fn Tryz.prog 10 [plA false r,plA false [(-2,-1),(2,-1)]] (plA false (brP (Sp.unM m1 m2) (s1.length+s2.length) (L1+L2))):=by
 have hp1:=pmOk hv1
 have hp2:=pmOk hv2
 obtain ⟨K1,d1⟩:=denK hv1 h1
 obtain ⟨K2,d2⟩:=denK hv2 h2
 have du:=d1.un d2 hpu
 have hP:=yhh hp1 (L:=L1) (by omega) (by omega)
 have hQ:=yhh hp2 (L:=L2) (by omega) (by omega)
 have p0:=ywu hp1 (ya8 hv1).len h1 (by omega) (show L1<=20 by omega)
 have q0:=ywu hp2 (ya8 hv2).len h2 (by omega) (show L2<=20 by omega)
 have s1': ∀e,brT m1 s1.length L1 1 e≠0-> -1000<=e/\e<=1000:=fun e he=>by have:=ybp hp1 (by omega) (by omega) he;omega
 have s2': ∀e,brT m2 s2.length L2 1 e≠0-> -1000<=e/\e<=1000:=fun e he=>by have:=ybp hp2 (by omega) (by omega) he;omega
 have bu: ∀j,1<=j-> ∀e,-281474976710656<=brT (Sp.unM m1 m2) (s1.length+s2.length) (L1+L2) j e/\brT (Sp.unM m1 m2) (s1.length+s2.length) (L1+L2) j e<=281474976710656:=fun j hj e=>ygd hpu (by omega) hj e
 have k1:=d1.pos
 have k2:=d2.pos
 obtain ⟨r,hr,hM⟩:=yil hP hQ s1' s2' (fun e=>by have:=ygd hp1 (L:=L1) (by omega) (j:=1) (by omega) e;omega) (fun e=>by have:=ygd hp2 (L:=L2) (by omega) (j:=1) (by omega) e;omega)
  (y41 hp1 hp2 hpu h1 h2 (by omega) (by omega) (fun t ht=>s1' _ (hP.mem ht).2) hP.cf) (fun e=>by have:=bu 2 (by omega) e;omega) p0 q0 (y43 d1 d2 (by omega) hP.asc hP.cf p0 hQ.asc hQ.cf q0)
 obtain ⟨q,hq,hN⟩:=y05 hr (fun e he=>by have:=ybp hpu (by omega) (by omega) he;omega) (fun e=>bu 2 (by omega) e) (fun h=>by
  have:=du.ok (j:=2) (by omega) hr.asc hr.cf h
  omega)
 refine ⟨r,hr,hM,?_⟩
 have e:q=brP (Sp.unM m1 m2) (s1.length+s2.length) (L1+L2):=(hq.congr fun x=>yaay (fun k _=>yaa3 hp1 hp2 hpu h1 h2 k) x).eq fun e he=>by have:=ybp hpu (by omega) (by omega) he;omega
 rw [←e];exact hN
end Go.Proofs.YtmdjdekgakidhaaGreatDoor
