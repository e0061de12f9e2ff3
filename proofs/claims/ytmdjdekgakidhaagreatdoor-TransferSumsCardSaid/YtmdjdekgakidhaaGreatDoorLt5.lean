/- Layer 17: the law TransferSums. -/
import Derived.Test.YtmdjdekgakidhaaGreatDoorZs
import Derived.Test.YtmdjdekgakidhaaGreatDoorZx
import Derived.Test.YtmdjdekgakidhaaGreatDoorZy
import Derived.Test.YtmdjdekgakidhaaGreatDoorZz
import Derived.Test.YtmdjdekgakidhaaGreatDoorZva
namespace Go.Proofs.YtmdjdekgakidhaaGreatDoor
open Go Go.RowKit
set_option maxRecDepth 100000
set_option maxHeartbeats 8000000
set_option linter.unusedVariables false
set_option linter.unusedSimpArgs false
def ych:List (List Nat):=[[],[],[],[],[],[],[],[],[],[],[],[],[],[],[],[94,95,96,97,98],[93,95],[93,94],[93],[93],[93],[],[],[]]
def yci:List (List Nat):=[[],[],[],[],[],[],[],[],[],[],[],[],[],[],[],[],[15],[15,16],[15],[15],[15],[],[],[]]
def ycj:Tr:= .node [(0, .node [(1, .node [(2, .node [(3, .node [(4, .node [(5, .node [(6, .node [(7, .node [(8, .node [(9, .node [(10, .node [(11, .node [(12, .node [(13, .node [(14, .node [(15, .node [(16, .node [(17, .node [(18, .node [(19, .node [(20, .node [(21, .node [(22, .node [(23, .done)])])])])])])]),(17, .node [(16, .node [(18, .node [(19, .node [(20, .node [(21, .node [(22, .node [(23, .done)])])])])])])])]),(16, .node [(15, .node [(17, .node [(18, .node [(19, .node [(20, .node [(21, .node [(22, .node [(23, .done)])])])])])])]),(17, .node [(15, .node [(18, .node [(19, .node [(20, .node [(21, .node [(22, .node [(23, .done)])])])])])]),(18, .node [(15, .node [(19, .node [(20, .node [(21, .node [(22, .node [(23, .done)])])])])]),(19, .node [(15, .node [(20, .node [(21, .node [(22, .node [(23, .done)])])])]),(20, .node [(15, .node [(21, .node [(22, .node [(23, .done)])])])])])])])]),(17, .node [(15, .node [(16, .node [(18, .node [(19, .node [(20, .node [(21, .node [(22, .node [(23, .done)])])])])])])]),(16, .node [(15, .node [(18, .node [(19, .node [(20, .node [(21, .node [(22, .node [(23, .done)])])])])])]),(18, .node [(15, .node [(19, .node [(20, .node [(21, .node [(22, .node [(23, .done)])])])])]),(19, .node [(15, .node [(20, .node [(21, .node [(22, .node [(23, .done)])])])]),(20, .node [(15, .node [(21, .node [(22, .node [(23, .done)])])])])])])])])])])])])])])])])])])])])])])])]
def yck:Tr:= .node [(0, .node [(1, .node [(2, .node [(3, .node [(4, .node [(5, .node [(6, .node [(7, .node [(8, .node [(9, .node [(10, .node [(11, .node [(12, .done)])])])])]),(8, .node [(7, .node [(9, .node [(10, .node [(11, .node [(12, .done)])])])]),(9, .node [(7, .node [(10, .node [(11, .node [(12, .done)])])])])])])])])])])])])]
def ycl:Tr:= .node [(0, .node [(1, .node [(2, .node [(3, .node [(4, .node [(5, .node [(6, .node [(7, .node [(8, .done)])])])])]),(4, .node [(3, .node [(5, .node [(6, .node [(7, .node [(8, .done)])])])])])]),(3, .node [(2, .node [(4, .node [(5, .node [(6, .node [(7, .node [(8, .done)])])])])]),(4, .node [(2, .node [(5, .node [(6, .node [(7, .node [(8, .done)])])])]),(5, .node [(2, .node [(6, .node [(7, .node [(8, .done)])])])])])]),(4, .node [(2, .node [(3, .node [(5, .node [(6, .node [(7, .node [(8, .done)])])])])]),(3, .node [(2, .node [(5, .node [(6, .node [(7, .node [(8, .done)])])])]),(5, .node [(2, .node [(6, .node [(7, .node [(8, .done)])])])])])])])])]
theorem ywy {s m:List Int} {L x:Int} (h:endB s m L x=true) (hx:x≠ -1):0<=x/\x<m.length/\outB s x=true:=by
 unfold endB at h
 rw [if_neg hx,Bool.and_eq_true,Bool.and_eq_true,decide_eq_true_eq,decide_eq_true_eq] at h
 exact ⟨h.1,h.2.1,h.2.2⟩
theorem y18 (s m:List Int) (l:Nat) (s' m':List Int) (l':Nat) (x y:Int) (hv:yah s m l=true) (hv':yah s' m' l'=true) (hne: ¬(s.length=0/\l=0)) (hne': ¬(s'.length=0/\l'=0)) (hs:s.length<=7) (hs':s'.length<=7) (hl:l+l'<=6)
  {r:List (Int×Int)} (hr:yao r (brT (Sp.unM m m') (s.length+s'.length) (l+l') 2)):
  Fn Tryz.prog 14 [dgA s m l,I x,dgA s' m' l',I y] (.tup [.agg [.nils, .nils,I 0],I 2])\/ ∃S M K,Fn Tryz.prog 14 [dgA s m l,I x,dgA s' m' l',I y] (.tup [dgA S M K,I 0])/\Fn Tryz.prog 7 [dgA S M K] (.tup [plA false r, .bool true]):=by
 have hp:=pmOk hv
 have hp':=pmOk hv'
 have v1:=ya8 hv
 have v2:=ya8 hv'
 have hvu:=Sp.valid_union hv hv' (by omega) (by omega)
 have hsl:(s++s').length=s.length+s'.length:=by simp
 have hpu:=pmOk hvu
 rw [hsl] at hpu
 cases h1:endB s m l x with
 |false=>exact .inl (ywx s m l s' m' l' x y hv hv' (.inl h1))
 |true=>
 cases h2:endB s' m' l' y with
 |false=>exact .inl (ywx s m l s' m' l' x y hv hv' (.inr h2))
 |true=>
 right
 by_cases hxy:x= -1\/y= -1
 ·have hS:=y87 s m l s' m' l' x y hv hv' h1 h2 hxy (by omega) (by omega)
  have hl1:1<=l+l':=by
   rcases hxy with rfl|rfl
   ·have:0<(l:Int):=by simpa [endB] using h1
    omega
   ·have:0<(l':Int):=by simpa [endB] using h2
    omega
  obtain ⟨K,hK⟩: ∃K:Nat,l+l'=K+1:=⟨l+l'-1,by omega⟩
  have eK:(l:Int)+l'-1=(K:Nat):=by omega
  rw [eK] at hS
  have hvK:yah (s++s') (Sp.unM m m') (K:Nat)=true:=by
   have h:=hvu
   unfold yah ycr at h⊢
   simp only [Bool.and_eq_true,decide_eq_true_eq] at h⊢
   exact ⟨⟨h.1.1,h.1.2.1,by omega,by omega,h.1.2.2.2.2⟩,h.2⟩
  have hB:=yip _ _ K (by omega) (by omega) hvK (by omega)
  have e:brP (Sp.unM m m') (s++s').length K=r:=by
   refine ((hr.congr fun e=>?_).eq fun e he=>by have:=ybp hpu (show s.length+s'.length<=14 by omega) (show K<=20 by omega) (by rw [hsl] at he;exact he);omega).symm
   rw [hsl]
   refine yap fun k _=>?_
   unfold cN
   rw [hK]
   generalize cirS (Sp.unM m m') (s.length+s'.length) (chB k)=c
   by_cases h:1<=c+K
   ·rw [if_pos h,if_pos (by omega),show c+(K+1)-2=c+K-1 by omega]
   ·rw [if_neg h,if_neg (by omega)]
  rw [e] at hB
  exact ⟨_,_,_,hS,hB⟩
 ·obtain ⟨x0,x1,x2⟩:=ywy h1 fun h=>hxy (.inl h)
  obtain ⟨y0,y1,y2⟩:=ywy h2 fun h=>hxy (.inr h)
  obtain ⟨i,rfl⟩: ∃i:Nat,x=i:=⟨x.toNat,by omega⟩
  obtain ⟨j,rfl⟩: ∃j:Nat,y=j:=⟨y.toNat,by omega⟩
  have ml:=v1.len
  have ml':=v2.len
  have hS:=yaa5 s m l s' m' l' i j hv hv' (by omega) (by omega) (by omega) (by omega) x2 y2
  have hvs:=y42 hv hv' (show s.length+s'.length<=64 by omega) (show (l:Int)+l'<=64 by omega) (x:=i) (y:=j) (by omega) (by omega) x2 y2
  rw [show (l:Int)+l'=((l+l':Nat):Int) by omega] at hS hvs
  have hB:=yip _ _ (l+l') (by omega) (by omega) hvs (by omega)
  have hpc:=y5x hp hp' hpu (x:=i) (y:=j) (by omega) (by omega)
  have e:brP (csM m m' i j) (s++s').length (l+l')=r:=((hr.congr fun e=>by rw [←cs_br hp hp' hpu (x:=i) (y:=j) (by omega) (by omega),hsl]).eq fun e he=>by have:=ybp hpc (show s.length+s'.length<=14 by omega) (show l+l'<=20 by omega) (by rw [hsl] at he;exact he);omega).symm
  rw [e] at hB
  exact ⟨_,_,_,hS,hB⟩
theorem yoo (s m:List Int) (L:Int) (s' m':List Int) (L' x y:Int):Fn Tryz.prog 3 [dgA s m L,dgA s' m' L',I x,I y] (.bool true):=by
 have hA:=yx4
 have hF:=ywt s m L
 have hF':=ywt s' m' L'
 cases hf:ftB s m L with
 |false=>
  rw [hf] at hF
  refine Fn.intro [.tmp 8] Tryz.func3 rfl rfl (by decide) (by simp [Tryz.ntmps3]) ?_;rw [Tryz.ntmps3]
  repeat' (first|omega|(first|apply yaa|(refine yae.intro (id:=9) ych yci (by decide+kernel) mixed ?_)|(refine yae.introT (id:=9) (ycj) (by decide+kernel) mixed ?_)|(refine yae.intro (id:=13) [[],[],[],[],[],[],[],[120,121],[119],[119],[],[],[]] [[],[],[],[],[],[],[],[],[7],[7],[],[],[]] (by decide+kernel) mixed ?_)|(refine yae.introT (id:=13) (yck) (by decide+kernel) mixed ?_)|(refine yae.intro (id:=19) [[],[],[143,144,145],[142,144],[142,143],[142],[],[],[]] [[],[],[],[2],[2,3],[2],[],[],[]] (by decide+kernel) mixed ?_)|(refine yae.introT (id:=19) (ycl) (by decide+kernel) mixed ?_)|skip);simp only [go_sem,sevalprocAttr,hA,↓reduceIte,reduceCtorEq,ych,yci,ycj,yck,ycl]|(refine ⟨yaf.fn (r:=?_) rfl ?_ ?_⟩;rotate_left;assumption)|(refine ⟨yak.fn (r:=?_) rfl ?_ ?_⟩;rotate_left;assumption)|apply yad<;>(intro h_;(try simp only [h_]);revert h_)|apply yac|apply yab|apply gspI|apply And.intro|with_reducible intro h_|trivial|simp only [go_sem,la2];omega)
 |true=>
 rw [hf] at hF
 cases hf':ftB s' m' L' with
 |false=>
  rw [hf'] at hF'
  refine Fn.intro [.tmp 8] Tryz.func3 rfl rfl (by decide) (by simp [Tryz.ntmps3]) ?_;rw [Tryz.ntmps3]
  repeat' (first|omega|(first|apply yaa|(refine yae.intro (id:=9) ych yci (by decide+kernel) mixed ?_)|(refine yae.introT (id:=9) (ycj) (by decide+kernel) mixed ?_)|(refine yae.intro (id:=13) [[],[],[],[],[],[],[],[120,121],[119],[119],[],[],[]] [[],[],[],[],[],[],[],[],[7],[7],[],[],[]] (by decide+kernel) mixed ?_)|(refine yae.introT (id:=13) (yck) (by decide+kernel) mixed ?_)|(refine yae.intro (id:=19) [[],[],[143,144,145],[142,144],[142,143],[142],[],[],[]] [[],[],[],[2],[2,3],[2],[],[],[]] (by decide+kernel) mixed ?_)|(refine yae.introT (id:=19) (ycl) (by decide+kernel) mixed ?_)|skip);simp only [go_sem,sevalprocAttr,hA,↓reduceIte,reduceCtorEq,ych,yci,ycj,yck,ycl]|(refine ⟨yaf.fn (r:=?_) rfl ?_ ?_⟩;rotate_left;assumption)|(refine ⟨yak.fn (r:=?_) rfl ?_ ?_⟩;rotate_left;assumption)|apply yad<;>(intro h_;(try simp only [h_]);revert h_)|apply yac|apply yab|apply gspI|apply And.intro|with_reducible intro h_|trivial|simp only [go_sem,la2];omega)
 |true=>
 rw [hf'] at hF'
 obtain ⟨hs,l,rfl,hl,hv,hne⟩:=y1y hf
 obtain ⟨hs',l',rfl,hl',hv',hne'⟩:=y1y hf'
 by_cases hbig:7<s.length\/7<s'.length\/3<l\/3<l'
 ·have hb:decide ((7:Int)<s.length)=true\/(decide ((7:Int)<s.length)=false/\decide ((7:Int)<s'.length)=true)\/(decide ((7:Int)<s.length)=false/\decide ((7:Int)<s'.length)=false/\decide ((3:Int)<l)=true)\/(decide ((7:Int)<s.length)=false/\decide ((7:Int)<s'.length)=false/\decide ((3:Int)<l)=false/\decide ((3:Int)<l')=true):=by
   simp only [decide_eq_true_eq,decide_eq_false_iff_not]
   omega
  rcases hb with b1|⟨b1,b2⟩|⟨b1,b2,b3⟩|⟨b1,b2,b3,b4⟩
  ·refine Fn.intro [.tmp 8] Tryz.func3 rfl rfl (by decide) (by simp [Tryz.ntmps3]) ?_;rw [Tryz.ntmps3]
   repeat' (first|omega|(first|apply yaa|(refine yae.intro (id:=9) ych yci (by decide+kernel) mixed ?_)|(refine yae.introT (id:=9) (ycj) (by decide+kernel) mixed ?_)|(refine yae.intro (id:=13) [[],[],[],[],[],[],[],[120,121],[119],[119],[],[],[]] [[],[],[],[],[],[],[],[],[7],[7],[],[],[]] (by decide+kernel) mixed ?_)|(refine yae.introT (id:=13) (yck) (by decide+kernel) mixed ?_)|(refine yae.intro (id:=19) [[],[],[143,144,145],[142,144],[142,143],[142],[],[],[]] [[],[],[],[2],[2,3],[2],[],[],[]] (by decide+kernel) mixed ?_)|(refine yae.introT (id:=19) (ycl) (by decide+kernel) mixed ?_)|skip);simp only [go_sem,sevalprocAttr,b1,↓reduceIte,reduceCtorEq,ych,yci,ycj,yck,ycl]|(refine ⟨yaf.fn (r:=?_) rfl ?_ ?_⟩;rotate_left;assumption)|(refine ⟨yak.fn (r:=?_) rfl ?_ ?_⟩;rotate_left;assumption)|apply yad<;>(intro h_;(try simp only [h_]);revert h_)|apply yac|apply yab|apply gspI|apply And.intro|with_reducible intro h_|trivial|simp only [go_sem,la2];omega)
  ·refine Fn.intro [.tmp 8] Tryz.func3 rfl rfl (by decide) (by simp [Tryz.ntmps3]) ?_;rw [Tryz.ntmps3]
   repeat' (first|omega|(first|apply yaa|(refine yae.intro (id:=9) ych yci (by decide+kernel) mixed ?_)|(refine yae.introT (id:=9) (ycj) (by decide+kernel) mixed ?_)|(refine yae.intro (id:=13) [[],[],[],[],[],[],[],[120,121],[119],[119],[],[],[]] [[],[],[],[],[],[],[],[],[7],[7],[],[],[]] (by decide+kernel) mixed ?_)|(refine yae.introT (id:=13) (yck) (by decide+kernel) mixed ?_)|(refine yae.intro (id:=19) [[],[],[143,144,145],[142,144],[142,143],[142],[],[],[]] [[],[],[],[2],[2,3],[2],[],[],[]] (by decide+kernel) mixed ?_)|(refine yae.introT (id:=19) (ycl) (by decide+kernel) mixed ?_)|skip);simp only [go_sem,sevalprocAttr,b1,b2,↓reduceIte,reduceCtorEq,ych,yci,ycj,yck,ycl]|(refine ⟨yaf.fn (r:=?_) rfl ?_ ?_⟩;rotate_left;assumption)|(refine ⟨yak.fn (r:=?_) rfl ?_ ?_⟩;rotate_left;assumption)|apply yad<;>(intro h_;(try simp only [h_]);revert h_)|apply yac|apply yab|apply gspI|apply And.intro|with_reducible intro h_|trivial|simp only [go_sem,la2];omega)
  ·refine Fn.intro [.tmp 8] Tryz.func3 rfl rfl (by decide) (by simp [Tryz.ntmps3]) ?_;rw [Tryz.ntmps3]
   repeat' (first|omega|(first|apply yaa|(refine yae.intro (id:=9) ych yci (by decide+kernel) mixed ?_)|(refine yae.introT (id:=9) (ycj) (by decide+kernel) mixed ?_)|(refine yae.intro (id:=13) [[],[],[],[],[],[],[],[120,121],[119],[119],[],[],[]] [[],[],[],[],[],[],[],[],[7],[7],[],[],[]] (by decide+kernel) mixed ?_)|(refine yae.introT (id:=13) (yck) (by decide+kernel) mixed ?_)|(refine yae.intro (id:=19) [[],[],[143,144,145],[142,144],[142,143],[142],[],[],[]] [[],[],[],[2],[2,3],[2],[],[],[]] (by decide+kernel) mixed ?_)|(refine yae.introT (id:=19) (ycl) (by decide+kernel) mixed ?_)|skip);simp only [go_sem,sevalprocAttr,b1,b2,b3,↓reduceIte,reduceCtorEq,ych,yci,ycj,yck,ycl]|(refine ⟨yaf.fn (r:=?_) rfl ?_ ?_⟩;rotate_left;assumption)|(refine ⟨yak.fn (r:=?_) rfl ?_ ?_⟩;rotate_left;assumption)|apply yad<;>(intro h_;(try simp only [h_]);revert h_)|apply yac|apply yab|apply gspI|apply And.intro|with_reducible intro h_|trivial|simp only [go_sem,la2];omega)
  ·refine Fn.intro [.tmp 8] Tryz.func3 rfl rfl (by decide) (by simp [Tryz.ntmps3]) ?_;rw [Tryz.ntmps3]
   repeat' (first|omega|(first|apply yaa|(refine yae.intro (id:=9) ych yci (by decide+kernel) mixed ?_)|(refine yae.introT (id:=9) (ycj) (by decide+kernel) mixed ?_)|(refine yae.intro (id:=13) [[],[],[],[],[],[],[],[120,121],[119],[119],[],[],[]] [[],[],[],[],[],[],[],[],[7],[7],[],[],[]] (by decide+kernel) mixed ?_)|(refine yae.introT (id:=13) (yck) (by decide+kernel) mixed ?_)|(refine yae.intro (id:=19) [[],[],[143,144,145],[142,144],[142,143],[142],[],[],[]] [[],[],[],[2],[2,3],[2],[],[],[]] (by decide+kernel) mixed ?_)|(refine yae.introT (id:=19) (ycl) (by decide+kernel) mixed ?_)|skip);simp only [go_sem,sevalprocAttr,b1,b2,b3,b4,↓reduceIte,reduceCtorEq,ych,yci,ycj,yck,ycl]|(refine ⟨yaf.fn (r:=?_) rfl ?_ ?_⟩;rotate_left;assumption)|(refine ⟨yak.fn (r:=?_) rfl ?_ ?_⟩;rotate_left;assumption)|apply yad<;>(intro h_;(try simp only [h_]);revert h_)|apply yac|apply yab|apply gspI|apply And.intro|with_reducible intro h_|trivial|simp only [go_sem,la2];omega)
 have b1:decide ((7:Int)<s.length)=false:=by rw [decide_eq_false_iff_not];omega
 have b2:decide ((7:Int)<s'.length)=false:=by rw [decide_eq_false_iff_not];omega
 have b3:decide ((3:Int)<l)=false:=by rw [decide_eq_false_iff_not];omega
 have b4:decide ((3:Int)<l')=false:=by rw [decide_eq_false_iff_not];omega
 have hp:=pmOk hv
 have hvu:=Sp.valid_union hv hv' (by omega) (by omega)
 have hsl:(s++s').length=s.length+s'.length:=by simp
 have hpu:=pmOk hvu
 rw [hsl] at hpu
 have hP:=yip s m l (by omega) hl hv hne
 have hQ:=yip s' m' l' (by omega) hl' hv' hne'
 have hU:=y46 s m l s' m' l' hv hv' (by omega) (by omega)
 rw [show (l:Int)+l'=((l+l':Nat):Int) by omega] at hU hvu
 have hBU:=yip (s++s') (Sp.unM m m') (l+l') (by omega) (by omega) hvu (by omega)
 rw [hsl] at hBU
 obtain ⟨r,hr,hM,hN⟩:=yaa4 hv hv' hpu hne hne' (by omega) (by omega) (by omega)
 have hD:=yut
 have lX:(exS s fun _=>true).length=s.length:=by unfold exS;rw [yh4]
 have hX:=y12 s m l hv
 have vX:=ytt hv
 have bX:=yip _ _ l (by rw [lX];omega) hl vX (by rw [lX];exact hne)
 rw [lX] at bX
 have pX:=pmOk vX
 rw [lX] at pX
 have hP0:=yhh hp hs (show l<=20 by omega)
 have eX:brP (exM s m fun _=>true) s.length l=flP (brP m s.length l):=
  (((y9d hP0).congr fun e=>(y1q hv l 1 e).symm).eq fun e he=>by have:=ybp pX hs (show l<=20 by omega) he;omega).symm
 rw [eX] at bX
 have hFl:=y49 hP0 fun e he=>by have:=ybp hp hs (show l<=20 by omega) he;omega
 have sup2: ∀e,brT (Sp.unM m m') (s.length+s'.length) (l+l') 2 e≠0-> -1000<=e/\e<=1000:=fun e he=>by have:=ybp hpu (show s.length+s'.length<=14 by omega) (show l+l'<=20 by omega) he;omega
 have hrl:=hr.len sup2
 have hul:=(yhh hpu (show s.length+s'.length<=14 by omega) (show l+l'<=20 by omega)).len fun e he=>by have:=ybp hpu (show s.length+s'.length<=14 by omega) (show l+l'<=20 by omega) he;omega
 have hpl:=hP0.len fun e he=>by have:=ybp hp hs (show l<=20 by omega) he;omega
 have qU:=ynb (brP (Sp.unM m m') (s.length+s'.length) (l+l')) (by omega)
 have qX:=ynb (flP (brP m s.length l)) (by simp [flP,ngP];omega)
 have qR:=ynb r (by omega)
 have hSum:=y18 s m l s' m' l' x y hv hv' hne hne' (by omega) (by omega) (by omega) hr
 rw [show ((l+l':Nat):Int)=(l:Int)+l' by omega] at hU hBU
 generalize hp1:brP m s.length l=p at*
 generalize brP m' s'.length l'=q at*
 generalize brP (Sp.unM m m') (s.length+s'.length) (l+l')=u at*
 generalize flP p=f at*
 generalize (exS s fun _=>true)=sx at*
 generalize (exM s m fun _=>true)=mx at*
 generalize Sp.unM m m'=mu at*
 generalize s++s'=su at*
 rcases hSum with hS|⟨S,M,K,hS,hBS⟩
 ·refine Fn.intro [.tmp 8] Tryz.func3 rfl rfl (by decide) (by simp [Tryz.ntmps3]) ?_;rw [Tryz.ntmps3]
  repeat' (first|omega|(first|apply yaa|(refine yae.intro (id:=9) ych yci (by decide+kernel) mixed ?_)|(refine yae.introT (id:=9) (ycj) (by decide+kernel) mixed ?_)|(refine yae.intro (id:=13) [[],[],[],[],[],[],[],[120,121],[119],[119],[],[],[]] [[],[],[],[],[],[],[],[],[7],[7],[],[],[]] (by decide+kernel) mixed ?_)|(refine yae.introT (id:=13) (yck) (by decide+kernel) mixed ?_)|(refine yae.intro (id:=19) [[],[],[143,144,145],[142,144],[142,143],[142],[],[],[]] [[],[],[],[2],[2,3],[2],[],[],[]] (by decide+kernel) mixed ?_)|(refine yae.introT (id:=19) (ycl) (by decide+kernel) mixed ?_)|skip);simp only [go_sem,sevalprocAttr,b1,b2,b3,b4,↓reduceIte,reduceCtorEq,ych,yci,ycj,yck,ycl]|(refine ⟨yaf.fn (r:=?_) rfl ?_ ?_⟩;rotate_left;assumption)|(refine ⟨yak.fn (r:=?_) rfl ?_ ?_⟩;rotate_left;assumption)|apply yad<;>(intro h_;(try simp only [h_]);revert h_)|apply yac|apply yab|apply gspI|apply And.intro|with_reducible intro h_|trivial|simp only [go_sem,la2];omega)
 ·refine Fn.intro [.tmp 8] Tryz.func3 rfl rfl (by decide) (by simp [Tryz.ntmps3]) ?_;rw [Tryz.ntmps3]
  repeat' (first|omega|(first|apply yaa|(refine yae.intro (id:=9) ych yci (by decide+kernel) mixed ?_)|(refine yae.introT (id:=9) (ycj) (by decide+kernel) mixed ?_)|(refine yae.intro (id:=13) [[],[],[],[],[],[],[],[120,121],[119],[119],[],[],[]] [[],[],[],[],[],[],[],[],[7],[7],[],[],[]] (by decide+kernel) mixed ?_)|(refine yae.introT (id:=13) (yck) (by decide+kernel) mixed ?_)|(refine yae.intro (id:=19) [[],[],[143,144,145],[142,144],[142,143],[142],[],[],[]] [[],[],[],[2],[2,3],[2],[],[],[]] (by decide+kernel) mixed ?_)|(refine yae.introT (id:=19) (ycl) (by decide+kernel) mixed ?_)|skip);simp only [go_sem,sevalprocAttr,b1,b2,b3,b4,↓reduceIte,reduceCtorEq,ych,yci,ycj,yck,ycl]|(refine ⟨yaf.fn (r:=?_) rfl ?_ ?_⟩;rotate_left;assumption)|(refine ⟨yak.fn (r:=?_) rfl ?_ ?_⟩;rotate_left;assumption)|apply yad<;>(intro h_;(try simp only [h_]);revert h_)|apply yac|apply yab|apply gspI|apply And.intro|with_reducible intro h_|trivial|simp only [go_sem,la2];omega)
end Go.Proofs.YtmdjdekgakidhaaGreatDoor
