/- Layer 19: the law ConwaySums. -/
import Derived.Test.YtjpnnnognoaaiaaGreatDoorZw
import Derived.Test.YtjpnnnognoaaiaaGreatDoorZy
import Derived.Test.YtjpnnnognoaaiaaGreatDoorZz
namespace Go.Proofs.YtjpnnnognoaaiaaGreatDoor
open Go Go.RowKit
set_option maxRecDepth 100000
set_option maxHeartbeats 8000000
set_option linter.unusedVariables false
set_option linter.unusedSimpArgs false
def yz6:List (List Nat):=[[],[],[],[],[],[],[],[],[],[],[],[72,73,74],[71,73],[71,72],[71],[],[],[]]
def yz7:Tr:=trP [0,1,2,3,4,5,6,7,8,9,10] (.node [(11, .node [(12,trD [13,14,15,16,17]),(13,trD [12,14,15,16,17])]),(12, .node [(11,trD [13,14,15,16,17]),(13, .node [(11,trD [14,15,16,17]),(14,trD [11,15,16,17])])]),(13, .node [(11,trD [12,14,15,16,17]),(12, .node [(11,trD [14,15,16,17]),(14,trD [11,15,16,17])])])])
theorem yz8 {f:Nat->Int} {a:Nat}: ∀n,a<=n->(∀t,a<=t->t<n->f t=0)->sm f n=sm f a
 |0,h,_=>by obtain rfl:a=0:=by omega
            rfl
 |n+1,h,hz=>by
  by_cases e:a=n+1
  ·rw [e]
  ·show sm f n+f n=_
   rw [yz8 n (by omega) fun t h1 h2=>hz t h1 (by omega),hz n (by omega) (by omega),Int.add_zero]
theorem yz9 (g:Int->Int) (e:Int) (N:Nat): ∀P:List (Int×Int),(∀t∈P,0<=t.1/\t.1<N)->cvL P g e=sm (fun t=>cfL P t*g (e-t)) N
 |[],_=>by
  have:sm (fun t:Nat=>cfL [] t*g (e-t)) N=sm (fun _=>0) N:=ycc fun t _=>by simp [cfL]
  rw [this,Hs.sm_0];rfl
 |u::P,h=>by
  have ih:=yz9 g e N P fun t ht=>h t (.tail _ ht)
  obtain ⟨h0,h1⟩:=h u (.head _)
  obtain ⟨a,ha⟩: ∃a:Nat,u.1=a:=⟨u.1.toNat,by omega⟩
  have e1:sm (fun t:Nat=>cfL (u::P) t*g (e-t)) N=sm (fun t:Nat=>(if t=a then u.2*g (e-a) else 0)+cfL P t*g (e-t)) N:=ycc fun t _=>by
   simp only [cfL]
   rw [Int.add_mul]
   congr 1
   by_cases ht:t=a
   ·rw [if_pos ht,if_pos (by omega),ht]
   ·rw [if_neg ht,if_neg (by omega),Int.zero_mul]
  rw [e1,yy0,ym7 (f:=fun t=>if t=a then u.2*g (e-a) else 0) (a:=a) (by omega) fun t _ ht=>if_neg ht,if_pos rfl,←ih,←ha]
  rfl
theorem y21 (p:List (Int×Int)):Fn Tryz.prog 18 [plA false p,plA false []] (plA false []):=by
 by_cases hp:p.length=0
 ·obtain rfl:p=[]:=List.eq_nil_of_length_eq_zero hp
  exact ytz []
 have b1:((p.length:Int)==0)=false:=by rw [beq_eq_false_iff_ne];omega
 refine Fn.introL [.cell 4 34] Tryz.func18 rfl rfl (by decide) (by simp [Tryz.ntmps18]) ?_;rw [Tryz.ntmps18]
 repeat' (first|omega|(try apply yaa);simp only [go_sem,sevalprocAttr,b1]|apply yab<;>(intro h_;(try simp only [h_]);revert h_)|apply And.intro|with_reducible intro h_|trivial|simp only [go_sem,la2];omega)
 all_goals exact LeA.aggL (.cons (LeA.refl _) (.cons (LeA.nils (by omega) rfl) .nil))
theorem y6v {p q:List (Int×Int)} {f g h:Int->Int} (hp:yb5 p f) (hq:yb5 q g) (hs: ∀e,f e≠0->0<=e/\e<=7) (hs2: ∀e,g e≠0->0<=e/\e<=7)
  (hb: ∀e,-1000000000000<=f e/\f e<=1000000000000) (hb2: ∀e,-1000000000000<=g e/\g e<=1000000000000) (hb3: ∀e,-1000000000000<=h e/\h e<=1000000000000) (hn: ∀e,e<0->h e=0) (hh: ∀e:Nat,h e=sm (fun t=>f t*g ((e:Int)-t)) (e+1)):
  ∃r,yb5 r h/\Fn Tryz.prog 18 [plA false p,plA false q] (plA false r):=by
 have hfp:cfL p=f:=funext hp.cf
 have hgq:cfL q=g:=funext hq.cf
 have hcv: ∀e,cvL p g e=h e:=fun e=>by
  have hz: ∀t∈p,0<=t.1/\t.1<((8+e.toNat+1:Nat):Int):=fun t ht=>by have:=hs _ (hp.mem ht).2;omega
  rw [yz9 g e _ p hz,hfp]
  by_cases he:0<=e
  ·obtain ⟨n,rfl⟩: ∃n:Nat,e=n:=⟨e.toNat,by omega⟩
   rw [hh n,yz8 (a:=n+1) _ (by omega) fun t h1 _=>?_]
   have:g ((n:Int)-t)=0:=by
    apply Classical.byContradiction
    intro hne
    have:=hs2 _ hne;omega
   rw [this,Int.mul_zero]
  ·rw [hn e (by omega),show sm (fun t:Nat=>f t*g (e-t)) (8+e.toNat+1)=sm (fun _=>0) (8+e.toNat+1) from ycc fun t _=>?_,Hs.sm_0]
   have:g (e-t)=0:=by
    apply Classical.byContradiction
    intro hne
    have:=hs2 _ hne;omega
   rw [this,Int.mul_zero]
 by_cases hp0:0<p.length
 ·by_cases hq0:0<q.length
  ·have g0:=hs _ (hp.mem (ydf (i:=0) hp0)).2
   have g1:=hs _ (hp.mem (ydf (i:=p.length-1) (by omega))).2
   have g2:=hs2 _ (hq.mem (ydf (i:=0) hq0)).2
   have g3:=hs2 _ (hq.mem (ydf (i:=q.length-1) (by omega))).2
   refine y54 hp hq (fun e he=>by have:=hs e he;omega) (fun e he=>by have:=hs2 e he;omega) (fun e=>by have:=hb e;omega) (fun e=>by have:=hb2 e;omega) hcv (fun e=>by have:=hb3 e;omega) hp0 hq0 ?_
   unfold yce lowE
   have:(0:Int)<=4*(p.length:Int)*q.length:=by
    have:=Int.mul_nonneg (show (0:Int)<=4*(p.length:Int) by omega) (show (0:Int)<=q.length by omega)
    exact this
   omega
  ·obtain rfl:q=[]:=List.eq_nil_of_length_eq_zero (by omega)
   refine ⟨[],yb5.nil.congr fun e=>?_,y21 p⟩
   rw [←hcv,show g=fun _=>0 from by rw [←hgq];rfl]
   exact (yq0 fun t _=>rfl).symm
 ·obtain rfl:p=[]:=List.eq_nil_of_length_eq_zero (by omega)
  refine ⟨[],yb5.nil.congr fun e=>?_,ytz q⟩
  rw [←hcv];rfl
theorem y6w (s m:List Int) (L:Int) (s' m':List Int) (L' x y:Int) (h:yaf s m L=false\/yaf s' m' L'=false):Fn Tryz.prog 20 [dgA s m L,I x,dgA s' m' L',I y] (.tup [.agg [.nils, .nils,I 0],I 1]):=by
 have hV:=ybw s m L
 have hV':=ybw s' m' L'
 cases h1:yaf s m L with
 |false=>
  rw [h1] at hV
  refine Fn.intro [.cell 8 24, .tmp 9] Tryz.func20 rfl rfl (by decide) (by simp [Tryz.ntmps20]) ?_;rw [Tryz.ntmps20]
  repeat' (first|omega|(try apply yaa);simp only [go_sem,sevalprocAttr,hV]|(refine ⟨yad.fn (r:=?_) rfl ?_ ?_⟩;rotate_left;assumption)|(refine ⟨yap.fn (r:=?_) rfl ?_ ?_⟩;rotate_left;assumption)|apply yab<;>(intro h_;(try simp only [h_]);revert h_)|apply And.intro|with_reducible intro h_|trivial|simp only [go_sem,la2];omega)
 |true=>
  have h2:yaf s' m' L'=false:=by
   rcases h with h|h
   ·rw [h] at h1;cases h1
   ·exact h
  rw [h1] at hV
  rw [h2] at hV'
  refine Fn.intro [.cell 8 24, .tmp 9] Tryz.func20 rfl rfl (by decide) (by simp [Tryz.ntmps20]) ?_;rw [Tryz.ntmps20]
  repeat' (first|omega|(try apply yaa);simp only [go_sem,sevalprocAttr,hV]|(refine ⟨yad.fn (r:=?_) rfl ?_ ?_⟩;rotate_left;assumption)|(refine ⟨yap.fn (r:=?_) rfl ?_ ?_⟩;rotate_left;assumption)|apply yab<;>(intro h_;(try simp only [h_]);revert h_)|apply And.intro|with_reducible intro h_|trivial|simp only [go_sem,la2];omega)
theorem ywf (s m:List Int) (l:Nat) (s' m':List Int) (l':Nat) (x y:Int) (hv:yaf s m l=true) (hv':yaf s' m' l'=true) (hs:s.length+s'.length<=7) (hl:l+l'<=20):
  Fn Tryz.prog 20 [dgA s m l,I x,dgA s' m' l',I y] (.tup [.agg [.nils, .nils,I 0],I 2])\/
   ((0<s.length\/0<l)/\(0<s'.length\/0<l')/\ ∃S M,∃K:Nat,Fn Tryz.prog 20 [dgA s m l,I x,dgA s' m' l',I y] (.tup [dgA S M K,I 0])/\yaf S M K=true/\S.length<=7/\K<=20/\ ¬(S.length=0/\K=0)/\
     ∀p:Nat,cwF S M K p=sm (fun t=>cwF s m l t*cwF s' m' l' ((p:Int)-t)) (p+1)):=by
 have v1:=yal hv
 have v2:=yal hv'
 have hsl:(s++s').length=s.length+s'.length:=by simp
 cases h1:endB s m l x with
 |false=>exact .inl (yuu s m l s' m' l' x y hv hv' (.inl h1))
 |true=>
 cases h2:endB s' m' l' y with
 |false=>exact .inl (yuu s m l s' m' l' x y hv hv' (.inr h2))
 |true=>
 right
 have ml:=v1.len
 have ml':=v2.len
 have n1:0<s.length\/0<l:=by
  unfold endB at h1
  split at h1
  ·rw [decide_eq_true_eq] at h1;omega
  ·rw [Bool.and_eq_true,Bool.and_eq_true,decide_eq_true_eq,decide_eq_true_eq] at h1;omega
 have n2:0<s'.length\/0<l':=by
  unfold endB at h2
  split at h2
  ·rw [decide_eq_true_eq] at h2;omega
  ·rw [Bool.and_eq_true,Bool.and_eq_true,decide_eq_true_eq,decide_eq_true_eq] at h2;omega
 refine ⟨n1,n2,?_⟩
 by_cases hxy:x= -1\/y= -1
 ·have hS:=y6u s m l s' m' l' x y hv hv' h1 h2 hxy (by omega) (by omega)
  have hl1:1<=l+l':=by
   rcases hxy with rfl|rfl
   ·have:0<(l:Int):=by simpa [endB] using h1
    omega
   ·have:0<(l':Int):=by simpa [endB] using h2
    omega
  obtain ⟨K,hK⟩: ∃K:Nat,l+l'=K+1:=⟨l+l'-1,by omega⟩
  have eK:(l:Int)+l'-1=(K:Nat):=by omega
  have hvu:=Sp.valid_union hv hv' (by omega) (by omega)
  have hvK:yaf (s++s') (Sp.unM m m') (K:Nat)=true:=by
   have h:=hvu
   unfold yaf ycn at h⊢
   simp only [Bool.and_eq_true,decide_eq_true_eq] at h⊢
   exact ⟨⟨h.1.1,h.1.2.1,by omega,by omega,h.1.2.2.2.2⟩,h.2⟩
  have hU:=fun p=>Hs.HF_uni hv hv' (by omega) (by omega) n1 n2 (by omega) (by rw [eK];exact hvK) p
  rw [eK] at hS hU
  refine ⟨_,_,K,hS,hvK,by omega,by omega,?_,hU⟩
  rintro ⟨a,b⟩
  rw [hsl] at a;omega
 ·have end_o: ∀{s m:List Int} {L x:Int},endB s m L x=true->x≠ -1->0<=x/\x<m.length/\outB s x=true:=fun {s m L x} h hx=>by
   unfold endB at h
   rw [if_neg hx,Bool.and_eq_true,Bool.and_eq_true,decide_eq_true_eq,decide_eq_true_eq] at h
   exact ⟨h.1,h.2.1,h.2.2⟩
  obtain ⟨x0,x1,x2⟩:=end_o h1 fun h=>hxy (.inl h)
  obtain ⟨y0,y1,y2⟩:=end_o h2 fun h=>hxy (.inr h)
  obtain ⟨i,rfl⟩: ∃i:Nat,x=i:=⟨x.toNat,by omega⟩
  obtain ⟨j,rfl⟩: ∃j:Nat,y=j:=⟨y.toNat,by omega⟩
  have hS:=y8j s m l s' m' l' i j hv hv' (by omega) (by omega) (by omega) (by omega) x2 y2
  have hvs:=yr9 hv hv' (show s.length+s'.length<=64 by omega) (show (l:Int)+l'<=64 by omega) (x:=i) (y:=j) (by omega) (by omega) x2 y2
  have hU:=fun p=>Hs.HF_sum hv hv' (by omega) (by omega) (x:=i) (y:=j) (by omega) (by omega) x2 y2 p
  rw [show (l:Int)+l'=((l+l':Nat):Int) by omega] at hS hvs hU
  refine ⟨_,_,l+l',hS,hvs,by omega,hl,?_,hU⟩
  rintro ⟨a,b⟩
  rw [hsl] at a;omega
theorem ypd (s m:List Int) (L x:Int) (s' m':List Int) (L' y:Int) (hb:s.length<=140737488351232) (hb':s'.length<=140737488351232):Fn Tryz.prog 5 [dgA s m L,I x,dgA s' m' L',I y] (.bool true):=by
 have hA:=yvv
 have hG:=ym2 s m L
 have hG':=ym2 s' m' L'
 cases hg:grB s m L with
 |true=>
  rw [hg] at hG
  refine Fn.intro [.tmp 8] Tryz.func5 rfl rfl (by decide) (by simp [Tryz.ntmps5]) ?_;rw [Tryz.ntmps5]
  repeat' (first|omega|(try apply yaa);simp only [go_sem,sevalprocAttr,hA]|(refine ⟨yad.fn (r:=?_) rfl ?_ ?_⟩;rotate_left;assumption)|(refine ⟨yap.fn (r:=?_) rfl ?_ ?_⟩;rotate_left;assumption)|apply yab<;>(intro h_;(try simp only [h_]);revert h_)|apply And.intro|with_reducible intro h_|trivial|simp only [go_sem,la2];omega)
 |false=>
 rw [hg] at hG
 cases hg':grB s' m' L' with
 |true=>
  rw [hg'] at hG'
  refine Fn.intro [.tmp 8] Tryz.func5 rfl rfl (by decide) (by simp [Tryz.ntmps5]) ?_;rw [Tryz.ntmps5]
  repeat' (first|omega|(try apply yaa);simp only [go_sem,sevalprocAttr,hA]|(refine ⟨yad.fn (r:=?_) rfl ?_ ?_⟩;rotate_left;assumption)|(refine ⟨yap.fn (r:=?_) rfl ?_ ?_⟩;rotate_left;assumption)|apply yab<;>(intro h_;(try simp only [h_]);revert h_)|apply And.intro|with_reducible intro h_|trivial|simp only [go_sem,la2];omega)
 |false=>
 rw [hg'] at hG'
 by_cases h7:7<s.length+s'.length
 ·have b0:decide ((7:Int)<s.length+s'.length)=true:=by simp;omega
  have hi:InI ((s.length:Int)+s'.length):=by unfold InI;omega
  refine Fn.intro [.tmp 8] Tryz.func5 rfl rfl (by decide) (by simp [Tryz.ntmps5]) ?_;rw [Tryz.ntmps5]
  repeat' (first|omega|(try apply yaa);simp only [go_sem,sevalprocAttr,b0]|(refine ⟨yad.fn (r:=?_) rfl ?_ ?_⟩;rotate_left;assumption)|(refine ⟨yap.fn (r:=?_) rfl ?_ ?_⟩;rotate_left;assumption)|apply yab<;>(intro h_;(try simp only [h_]);revert h_)|apply And.intro|with_reducible intro h_|trivial|simp only [go_sem,la2];omega)
 have b0:decide ((7:Int)<s.length+s'.length)=false:=by simp;omega
 have hi:InI ((s.length:Int)+s'.length):=by unfold InI;omega
 by_cases hvv:yaf s m L=false\/yaf s' m' L'=false
 ·have hS:=y6w s m L s' m' L' x y hvv
  refine Fn.intro [.tmp 8] Tryz.func5 rfl rfl (by decide) (by simp [Tryz.ntmps5]) ?_;rw [Tryz.ntmps5]
  repeat' (first|omega|(try apply yaa);simp only [go_sem,sevalprocAttr,b0]|(refine ⟨yad.fn (r:=?_) rfl ?_ ?_⟩;rotate_left;assumption)|(refine ⟨yap.fn (r:=?_) rfl ?_ ?_⟩;rotate_left;assumption)|apply yab<;>(intro h_;(try simp only [h_]);revert h_)|apply And.intro|with_reducible intro h_|trivial|simp only [go_sem,la2];omega)
 have hv:yaf s m L=true:=by cases e:yaf s m L with
  |true=>rfl
  |false=>exact absurd (.inl e) hvv
 have hv':yaf s' m' L'=true:=by cases e:yaf s' m' L' with
  |true=>rfl
  |false=>exact absurd (.inr e) hvv
 have v1:=yal hv
 have v2:=yal hv'
 have a1:=v1.l0
 have a2:=v1.l64
 have a3:=v2.l0
 have a4:=v2.l64
 have a5:=v1.len
 have a6:=v2.len
 simp only [grB,Bool.or_eq_false_iff,Bool.and_eq_false_iff,decide_eq_false_iff_not] at hg hg'
 obtain ⟨l,rfl⟩: ∃l:Nat,L=l:=⟨L.toNat,by omega⟩
 obtain ⟨l',rfl⟩: ∃l':Nat,L'=l':=⟨L'.toNat,by omega⟩
 rcases ywf s m l s' m' l' x y hv hv' (by omega) (by omega) with hS|⟨n1,n2,S,M,K,hS,k1,k2,k3,k4,k5⟩
 ·refine Fn.intro [.tmp 8] Tryz.func5 rfl rfl (by decide) (by simp [Tryz.ntmps5]) ?_;rw [Tryz.ntmps5]
  repeat' (first|omega|(try apply yaa);simp only [go_sem,sevalprocAttr,b0]|(refine ⟨yad.fn (r:=?_) rfl ?_ ?_⟩;rotate_left;assumption)|(refine ⟨yap.fn (r:=?_) rfl ?_ ?_⟩;rotate_left;assumption)|apply yab<;>(intro h_;(try simp only [h_]);revert h_)|apply And.intro|with_reducible intro h_|trivial|simp only [go_sem,la2];omega)
 ·obtain ⟨P,p1,p2,p3,p4⟩:=yl5 hv (by omega) (by omega) (by omega)
  obtain ⟨Q,q1,q2,q3,q4⟩:=yl5 hv' (by omega) (by omega) (by omega)
  obtain ⟨R,r1,r2,r3,r4⟩:=yl5 k1 (by omega) (by omega) k4
  obtain ⟨B,b1,b2⟩:=y6v p1 q1 (fun e he=>by have:=p3 e he;omega) (fun e he=>by have:=q3 e he;omega) p4 q4 r4 (fun e he=>ykt he) k5
  have hAB:R=B:=AscN.ext r1.asc b1.asc fun e=>by rw [r1.cf,b1.cf]
  subst hAB
  have hRl:R.length<=1000000:=by
   have:=r1.len fun e he=>by have:=r3 e he;omega
   omega
  have hE:=y2y R hRl
  clear hvv hv hv' v1 v2 hg hg' k1 k5 p1 p3 p4 q1 q3 q4 r1 r3 r4 b1 n1 n2
  refine Fn.intro [.tmp 8] Tryz.func5 rfl rfl (by decide) (by simp [Tryz.ntmps5]) ?_;rw [Tryz.ntmps5]
  repeat' (first|omega|(try apply yaa);simp only [go_sem,sevalprocAttr,b0]|(refine ⟨yad.fn (r:=?_) rfl ?_ ?_⟩;rotate_left;assumption)|(refine ⟨yap.fn (r:=?_) rfl ?_ ?_⟩;rotate_left;assumption)|apply yab<;>(intro h_;(try simp only [h_]);revert h_)|apply And.intro|with_reducible intro h_|trivial|simp only [go_sem,la2];omega)
  repeat' (first|omega|(first|apply yaa|(refine yac.intro (id:=11) yz6 [[],[],[],[],[],[],[],[],[],[],[],[],[11],[11,12],[11],[],[],[]] (by decide+kernel) mixed ?_)|(refine yac.introT (id:=11) (yz7) (by decide+kernel) mixed ?_)|skip);simp only [go_sem,sevalprocAttr,b0,↓reduceIte,reduceCtorEq,yz6,yz7]|(refine ⟨yad.fn (r:=?_) rfl ?_ ?_⟩;rotate_left;assumption)|(refine ⟨yap.fn (r:=?_) rfl ?_ ?_⟩;rotate_left;assumption)|apply yab<;>(intro h_;(try simp only [h_]);revert h_)|apply And.intro|with_reducible intro h_|trivial|simp only [go_sem,la2];omega)
end Go.Proofs.YtjpnnnognoaaiaaGreatDoor
