/- Plain: mirror images, the reversal and the renumbering: what becomes of the value. -/
import Derived.Test.YtjpnnnognoaaiaaDoorZu
import Derived.Test.YtjpnnnognoaaiaaDoorZr
import Derived.Test.YtjpnnnognoaaiaaDoorZs
import Derived.Test.YtjpnnnognoaaiaaDoorRn1
import Derived.Test.YtjpnnnognoaaiaaDoorZt
namespace Go.Proofs.YtjpnnnognoaaiaaDoor
set_option linter.unusedSimpArgs false
set_option linter.unusedVariables false
namespace Hs
open Sp (Sph siD PermN itn SC alD)
section
variable {D D':Sh} {X:Int->Int->Nat->Int}
structure Neg (D D':Sh):Prop where
 n:D'.n=D.n
 sg: ∀c,c<D.n->D'.sg c= -D.sg c
 nx: ∀a,a<2*D.n->D'.nx a=D.nx a
def ngS (S:WS):WS:={S with i:= -S.i}
theorem yzp (N:Neg D D') {F G:WS->Nat->Int} (h: ∀S b,G (ngS S) b=par S.j*F S b) (S:WS) (a:Nat):sumB (br D' (ngS S) a) G=par S.j*sumB (br D S a) F:=by
 unfold br
 rw [N.n]
 by_cases ha:2*D.n<=a
 ·rw [if_pos ha,if_pos ha]
  simp [sumB]
 rw [if_neg ha,if_neg ha,N.nx a (by omega),N.nx (co a) (yav (by omega))]
 have one: ∀(v b:Nat),sumB [(1,(ngS S).mk' a v,b)] G=par S.j*sumB [(1,S.mk' a v,b)] F:=fun v b=>by
  have:=h (S.mk' a v) b
  have e:ngS (S.mk' a v)=(ngS S).mk' a v:=rfl
  rw [e] at this
  simp only [sumB]
  rw [this]
  show 1*(par S.j*F (S.mk' a v) b)+0=par S.j*(1*F (S.mk' a v) b+0)
  simp only [Int.one_mul,Int.add_zero]
 show sumB (if S.st (a/2)=2 then _ else if S.st (a/2)=3 then _ else if S.st (a/2)=5 then _ else if S.st (a/2)=a % 2 then _ else if S.st (a/2)=1-a % 2 then _ else _) G=_
 split
 ·exact one _ _
 split
 ·exact one _ _
 split
 ·exact one _ _
 split
 ·exact one _ _
 split
 ·rename_i _ _ _ _ h5
  have hsg:sgn D' ((ngS S).st (a/2)) (a/2)= -sgn D (S.st (a/2)) (a/2):=by
   show sgn D' (S.st (a/2)) (a/2)=_
   unfold sgn
   rw [N.sg _ (by omega)]
   split<;>omega
  rw [hsg]
  generalize sgn D (S.st (a/2)) (a/2)=w
  have e1:((ngS S).mk' a 3).sc (2* -w) 0=ngS ((S.mk' a 3).sc (2*w) 0):=by
   refine WS.ext' (fun b=>rfl) rfl ?_ rfl rfl
   show-S.i+2* -w= -(S.i+2*w);omega
  have e2:((ngS S).mk' a 2).sc (-w) 1=ngS ((S.mk' a 2).sc w 1):=by
   refine WS.ext' (fun b=>rfl) rfl ?_ rfl rfl
   show-S.i+ -w= -(S.i+w);omega
  rw [e1,e2]
  simp only [sumB]
  rw [h,h]
  have j1:((S.mk' a 3).sc (2*w) 0).j=S.j:=Int.add_zero _
  have j2:((S.mk' a 2).sc w 1).j=S.j+1:=rfl
  rw [j1,j2,yma,Int.mul_add,Int.mul_add,Int.neg_mul (par S.j),Int.neg_mul_neg,Int.mul_left_comm w (par S.j)]
  simp
 ·simp [sumB]
theorem yzq (N:Neg D D') {stop:Nat->Bool} {k k':WS->Nat->Int} (h: ∀S b,k' (ngS S) b=par S.j*k S b): ∀f S a,Wf D' stop f (ngS S) a k'=par S.j*Wf D stop f S a k
 |0,S,a=>(Int.mul_zero _).symm
 |f+1,S,a=>by
  show (if stop a=true then k' (ngS S) a else if S.vis a=true then 0 else sumB (br D' (ngS S) a) fun S' b=>Wf D' stop f S' b k')=par S.j*(if stop a=true then k S a else if S.vis a=true then 0 else sumB (br D S a) fun S' b=>Wf D stop f S' b k)
  split
  ·exact h S a
  split
  ·exact (Int.mul_zero _).symm
  ·exact yzp N (fun S b=>yzq N h f S b) S a
theorem yod (N:Neg D D'): ∀(B:List Nat) (S:WS),run (Xf X) D' B (ngS S)=par S.j*run X D B S
 |[],S=>by
  show par S.j*X (- -S.i) S.j S.k=par S.j*X S.i S.j S.k
  rw [Int.neg_neg]
 |a::B,S=>by
  show (if S.vis a=true then run (Xf X) D' B (ngS S) else wk1 D' (ngS S.cr) a (run (Xf X) D' B))=par S.j*(if S.vis a=true then run X D B S else wk1 D S.cr a (run X D B))
  split
  ·exact yod N B S
  ·unfold wk1
   refine yzp N (fun T b=>?_) S.cr a
   unfold W
   have e:fu D' (ngS T)=fu D T:=by unfold fu;rw [N.n];rfl
   rw [e]
   exact yzq N (fun T _=>yod N B T) _ T b
end
section
variable {s m s' m':List Int} {L:Int}
theorem ynl (v:ybf s m L) {g gi:Nat->Nat} {e:Nat->Nat} (R:Rel s.length g gi m m') (hc: ∀h,h<4*s.length->cod (g h)=e (cod h)) {x y:Nat} (hx:x<4*s.length) (hy:outH (shD s' m') y=g x):(shD s' m').nx y=e (cod (alD m x)):=by
 show cod (alD m' (outH (shD s' m') y))=_
 rw [hy]
 have:=R.mate x hx
 have e1:alD m' (g x)=g (alD m x):=by unfold alD;rw [this,Int.toNat_natCast]
 rw [e1,hc _ (ydp v hx).1]
theorem y70 {X:Int->Int->Nat->Int} (v:ybf s m L) (N:Neg (shD s m) (shD s' m')) (hl:s'.length=s.length):HF (Xf X) s' m' L=HF X s m L:=by
 unfold HF
 rw [hl]
 have:=yod (X:=X) N (List.range (2*s.length)) (Z0 (fun _=>1) L.toNat)
 have e:ngS (Z0 (fun _=>1) L.toNat)=Z0 (fun _=>1) L.toNat:=rfl
 rw [e] at this
 rw [this]
 show (1:Int)*_=_
 rw [Int.one_mul]
theorem y9e (X:Int->Int->Nat->Int):Xf (Xf X)=X:=by
 funext i j k
 unfold Xf
 rw [Int.neg_neg,←Int.mul_assoc]
 have:par j*par j=1:=by unfold par;split<;>decide
 rw [this,Int.one_mul]
theorem HF_reflect {X:Int->Int->Nat->Int} (hv:yag s m L=true):HF X (sgM s (fun _=> -1) s.length) (mvM m (fun h=>yao h (4-2*(h % 4))) m.length) L=HF (Xf X) s m L:=by
 have v:=yan hv
 have hp:=pmOk hv
 have sg: ∀c,c<s.length->(sgM s (fun _=> -1) s.length).getD c 0= -s.getD c 0:=fun c hc=>by rw [ygk hc];omega
 have:=y70 (X:=Xf X) (s:=s) (m:=m) (s':=sgM s (fun _=> -1) s.length) (m':=mvM m (fun h=>yao h (4-2*(h % 4))) m.length) v ⟨yb3 _ _ _,sg,fun a ha=>?_⟩ (yb3 _ _ _)
 ·rw [y9e] at this;exact this
 ·have ha':a<2*s.length:=ha
  refine ynl (x:=outH (shD s m) a) (e:=id) v (yli hp) (fun h _=>?_) (ybp (D:=shD s m) ha) ?_
  ·show cod (yc6 h)=cod h
   unfold cod yc6;omega
  ·have e:(shD (sgM s (fun _=> -1) s.length) (mvM m (fun h=>yao h (4-2*(h % 4))) m.length)).sg (a/2)= -(shD s m).sg (a/2):=sg _ (by omega)
   have hs:(shD s m).sg (a/2)=1\/(shD s m).sg (a/2)= -1:=v.sg _ (by omega)
   unfold outH
   rw [e]
   unfold yc6
   split
   ·omega
   ·rcases hs with h|h
    ·rw [h,if_neg (by decide),if_pos rfl];omega
    ·rw [h,if_pos (by decide),if_neg (by decide)];omega
theorem HF_mirror {X:Int->Int->Nat->Int} (hX:Good X) (hv:yag s m L=true):HF X (exS s fun _=>true) (exM s m fun _=>true) L=HF (Xf X) s m L:=by
 have v:=yan hv
 have hp:=pmOk hv
 have hv':=yj5 hv
 have hlen:(exS s fun _=>true).length=s.length:=by unfold exS;rw [yb3]
 have sg: ∀c,c<s.length->(exS s fun _=>true).getD c 0= -s.getD c 0:=fun c hc=>by
  unfold exS;rw [ygk hc];unfold exSg;simp
 have hrn: ∀a,rnE id (fun _=>true) a=co a:=fun a=>by
  have:=ydn a
  have:=yai a
  show 2*(a/2)+(1-a % 2)=_
  omega
 have R:Ren (shD s m) (shD (exS s fun _=>true) (exM s m fun _=>true)) id (fun _=>true):=by
  refine ⟨hlen,fun c hc=>hc,fun _ _ _ _ h=>h,fun c hc=>sg c hc,fun a ha=>?_⟩
  have ha':a<2*s.length:=ha
  rw [hrn,hrn]
  refine ynl (x:=outH (shD s m) a) (e:=co) v (yni hp) (fun h _=>?_) (ybp (D:=shD s m) ha) ?_
  ·have hk:=Sp.kT_or (s:=s) (c:=h/4)
   have:=ydn (cod h)
   have:=yai (cod h)
   have e1:cod h/2=h/4:=by unfold cod;omega
   have e2:cod h % 2=h % 2:=by unfold cod;omega
   have e3:co (cod h)=2*(h/4)+(1-h % 2):=by omega
   rw [e3]
   unfold cod rot
   rcases hk with hk|hk<;>rw [hk]<;>omega
  ·have e:(shD (exS s fun _=>true) (exM s m fun _=>true)).sg (a/2)= -(shD s m).sg (a/2):=sg _ (by omega)
   have hs:(shD s m).sg (a/2)=1\/(shD s m).sg (a/2)= -1:=v.sg _ (by omega)
   have hkt:Sp.kT s (a/2)=if (shD s m).sg (a/2)=1 then 1 else 3:=rfl
   have hcd:=yai a
   have hcm:=ydn a
   have hd:outH (shD s m) a/4=a/2:=yg6 _ _
   have oa:outH (shD s m) a=if a % 2=0 then 4*(a/2)+2 else if (shD s m).sg (a/2)=1 then 4*(a/2)+1 else 4*(a/2)+3:=rfl
   have ob:outH (shD (exS s fun _=>true) (exM s m fun _=>true)) (co a)=if 1-a % 2=0 then 4*(a/2)+2 else if-(shD s m).sg (a/2)=1 then 4*(a/2)+1 else 4*(a/2)+3:=by unfold outH;rw [hcd,e,hcm]
   rw [ob]
   unfold rot
   rw [hd,hkt,oa]
   rcases hs with h|h<;>rw [h]<;>(repeat' split)<;>omega
 have h1:=yoa (k:=L.toNat) (st:=fun _=>0) (st':=fun _=>1) (ybr v) (ybr (yan hv')) (ye6 hv') R hX (fun _=> .inl (Nat.le_refl _)) fun c hc=>rfl
 have h2:=flip (ybr v) (ye6 hv) hX (yge (shD s m) (st:=fun _=>1) (fun _=> .inl (Nat.le_refl _)) L.toNat) (yfc (shD s m) _ _)
 unfold HF
 have e:flS (Z0 (fun _=>1) L.toNat)=Z0 (fun _=>0) L.toNat:=rfl
 rw [e,h1] at h2
 rw [show 2*s.length=2*(shD s m).n from rfl,h2]
 show _=(1:Int)*_
 rw [Int.one_mul];rfl
theorem HF_reverse {X:Int->Int->Nat->Int} (hX:Good X) (hv:yag s m L=true):HF X (sgM s (fun _=>1) s.length) (mvM m (fun h=>yao h 2) m.length) L=HF X s m L:=by
 have v:=yan hv
 have hp:=pmOk hv
 have hv':=yjf hv
 have sg: ∀c,c<s.length->(sgM s (fun _=>1) s.length).getD c 0=s.getD c 0:=fun c hc=>by rw [ygk hc];omega
 have R:Rev (shD s m) (shD (sgM s (fun _=>1) s.length) (mvM m (fun h=>yao h 2) m.length)):=by
  refine ⟨yb3 _ _ _,sg,fun a ha=>?_⟩
  have ha':a<2*s.length:=ha
  have hn:=(ybr v).lt a ha
  have hn':(shD s m).nx a<2*s.length:=hn
  have hio:inH (shD s m) ((shD s m).nx a)<4*s.length:=yg3 (D:=shD s m) hn
  have h1:=ynl (s':=sgM s (fun _=>1) s.length) (e:=id) v (ylj hp) (fun h _=>by show cod (rot (fun _=>2) h)=cod h;unfold cod rot;dsimp only;omega) (x:=inH (shD s m) ((shD s m).nx a)) (y:=(shD s m).nx a) hio ?_
  ·rw [h1,←yds v ha]
   have:=(ydp v (ybp (D:=shD s m) ha)).1
   have hiv:alD m (alD m (outH (shD s m) a))=outH (shD s m) a:=by
    have:=hp.inv (outH (shD s m) a) (ybp (D:=shD s m) ha)
    unfold alD;rw [this,Int.toNat_natCast]
   rw [hiv]
   exact yh5 a
  ·have e:(shD (sgM s (fun _=>1) s.length) (mvM m (fun h=>yao h 2) m.length)).sg ((shD s m).nx a/2)=(shD s m).sg ((shD s m).nx a/2):=sg _ (by omega)
   generalize (shD s m).nx a=b at*
   have oa:inH (shD s m) b=if b % 2=0 then 4*(b/2) else if (shD s m).sg (b/2)=1 then 4*(b/2)+3 else 4*(b/2)+1:=rfl
   have ob:outH (shD (sgM s (fun _=>1) s.length) (mvM m (fun h=>yao h 2) m.length)) b=if b % 2=0 then 4*(b/2)+2 else if (shD s m).sg (b/2)=1 then 4*(b/2)+1 else 4*(b/2)+3:=by unfold outH;rw [e]
   rw [ob]
   unfold rot
   rw [oa]
   dsimp only
   (repeat' split)<;>omega
 have h:=y54 (ybr v) (ybr (yan hv')) R (ye6 hv) (ye6 hv') hX (yge (shD s m) (st:=fun _=>1) (fun _=> .inl (Nat.le_refl _)) L.toNat) (yfc (shD s m) _ _) (B':=List.range (2*s.length)) (by
  have:=yfc (shD (sgM s (fun _=>1) s.length) (mvM m (fun h=>yao h 2) m.length)) (fun _=>1) L.toNat
  have e:(shD (sgM s (fun _=>1) s.length) (mvM m (fun h=>yao h 2) m.length)).n=s.length:=yb3 _ _ _
  rw [e] at this
  exact this)
 unfold HF
 rw [yb3]
 exact h
theorem HF_renum {X:Int->Int->Nat->Int} (hX:Good X) (hv:yag s m L=true) {o nu:Nat->Nat} (h:Ord s.length o nu):HF X (rnS s o s.length) (rnM m o nu s.length) L=HF X s m L:=by
 have v:=yan hv
 have hp:=pmOk hv
 have hv':=yr5 hv h
 have hlen:(rnS s o s.length).length=s.length:=by simp [rnS]
 have sg: ∀c,c<s.length->(rnS s o s.length).getD (nu c) 0=s.getD c 0:=fun c hc=>by
  unfold rnS
  simp only [List.getD_eq_getElem?_getD,List.getElem?_map,List.getElem?_range (h.nl c hc),Option.map_some,Option.getD_some]
  rw [h.on c hc]
 have hrn: ∀a,rnE nu (fun _=>false) a=2*nu (a/2)+a % 2:=fun a=>rfl
 have R:Ren (shD s m) (shD (rnS s o s.length) (rnM m o nu s.length)) nu (fun _=>false):=by
  refine ⟨hlen,h.nl,fun c d hc hd e=>by rw [←h.on c hc,e,h.on d hd],fun c hc=>sg c hc,fun a ha=>?_⟩
  have ha':a<2*s.length:=ha
  refine ynl (x:=outH (shD s m) a) (e:=rnE nu (fun _=>false)) v (yzi hp h) (fun x _=>?_) (ybp (D:=shD s m) ha) ?_
  ·rw [hrn]
   have e1:cod x/2=x/4:=by unfold cod;omega
   have e2:cod x % 2=x % 2:=by unfold cod;omega
   rw [e1,e2]
   unfold cod rnF
   omega
  ·have e:(shD (rnS s o s.length) (rnM m o nu s.length)).sg (nu (a/2))=(shD s m).sg (a/2):=sg _ (by omega)
   rw [hrn]
   have hd:outH (shD s m) a/4=a/2:=yg6 _ _
   unfold rnF
   rw [hd]
   unfold outH
   rw [show (2*nu (a/2)+a % 2)/2=nu (a/2) by omega,e]
   split<;>split<;>try omega
   all_goals (split<;>omega)
 have:=yoa (k:=L.toNat) (st:=fun _=>1) (st':=fun _=>1) (ybr v) (ybr (yan hv')) (ye6 hv') R hX (fun _=> .inl (Nat.le_refl _)) fun c hc=>rfl
 unfold HF
 exact this.symm
theorem y9f (p:Int):Xf (Xc p)=fun i j k=>par p*Xc p i j k:=by
 funext i j k
 unfold Xf Xc
 split
 ·rename_i h;rw [h.2]
 ·rw [Int.mul_zero,Int.mul_zero]
theorem HF_Xf (p:Int):HF (Xf (Xc p)) s m L=par p*HF (Xc p) s m L:=by
 rw [y9f]
 exact (y55 (D:=shD s m) _ _).mul (par p) (fun t=>Xc p t.1 t.2.1 t.2.2)
end
end Hs
end Go.Proofs.YtjpnnnognoaaiaaDoor

/- Layer 19: the law ConwayMirrors. -/
namespace Go.Proofs.YtjpnnnognoaaiaaDoor
open Go Go.RowKit
set_option maxRecDepth 100000
set_option maxHeartbeats 8000000
set_option linter.unusedVariables false
set_option linter.unusedSimpArgs false
def yf3:List (List Nat):=[[120,121,122,123,124,125],[119,121,124],[119,120,124],[119,124],[119,124],[119,120,121,122,123],[119],[],[]]
def loC (p:List (Int×Int)):Int:=if p.length=0 then 0 else (p.getD 0 (0,0)).1
def hiC (p:List (Int×Int)):Int:=if p.length=0 then 0 else (p.getD (p.length-1) (0,0)).1
theorem y56 (p:List (Int×Int)):Fn Tryd.prog 10 [plA false p] (I (loC p)):=by
 unfold loC
 by_cases h:p.length=0
 ·rw [if_pos h]
  have b0:((p.length:Int)==0)=true:=by rw [beq_iff_eq];omega
  refine Fn.intro [.tmp 2] Tryd.func10 rfl rfl (by decide) (by simp [Tryd.ntmps10]) ?_;rw [Tryd.ntmps10]
  repeat' (first|omega|(try apply yaa);simp only [go_sem,sevalprocAttr,b0]|apply yab<;>(intro h_;(try simp only [h_]);revert h_)|apply And.intro|with_reducible intro h_|trivial|simp only [go_sem,la2];omega)
 ·rw [if_neg h];exact y50 p (by omega)
theorem y2e (p:List (Int×Int)) (hp:p.length<=1000000):Fn Tryd.prog 11 [plA false p] (I (hiC p)):=by
 unfold hiC
 by_cases h:p.length=0
 ·rw [if_pos h]
  have b0:((p.length:Int)==0)=true:=by rw [beq_iff_eq];omega
  refine Fn.intro [.tmp 2] Tryd.func11 rfl rfl (by decide) (by simp [Tryd.ntmps11]) ?_;rw [Tryd.ntmps11]
  repeat' (first|omega|(try apply yaa);simp only [go_sem,sevalprocAttr,b0]|apply yab<;>(intro h_;(try simp only [h_]);revert h_)|apply And.intro|with_reducible intro h_|trivial|simp only [go_sem,la2];omega)
 ·rw [if_neg h];exact y2c p (by omega) hp
theorem y57 {p:List (Int×Int)} {f:Int->Int} (h:ybw p f) (h0: ∀e,f e≠0->0<=e/\e<=7):(0<=loC p)/\0<=hiC p/\hiC p<=7/\ ∀e,f e≠0->e<=hiC p:=by
 unfold loC hiC
 by_cases hl:p.length=0
 ·obtain rfl:p=[]:=List.eq_nil_of_length_eq_zero hl
  simp only [List.length_nil,if_true,ite_true]
  refine ⟨by omega,by omega,by omega,fun e he=>absurd (h.cf e).symm he⟩
 ·rw [if_neg hl,if_neg hl]
  have m0:=h0 _ (h.mem (yny (i:=0) (by omega))).2
  have m1:=h0 _ (h.mem (yny (i:=p.length-1) (by omega))).2
  refine ⟨m0.1,m1.1,m1.2,fun e he=>?_⟩
  apply Classical.byContradiction
  intro hne
  refine he ?_
  rw [←h.cf]
  refine yck fun t ht e1=>?_
  obtain ⟨i,hi,rfl⟩:=List.mem_iff_getElem.1 ht
  have:p[i].1<=(p.getD (p.length-1) (0,0)).1:=by
   by_cases hi':i=p.length-1
   ·subst hi';simp [List.getD_eq_getElem?_getD,hi]
   ·have:=List.pairwise_iff_getElem.1 h.asc.asc i (p.length-1) hi (by omega) (by omega)
    simp only [List.getD_eq_getElem?_getD,List.getElem?_eq_getElem (show p.length-1<p.length by omega),Option.getD_some]
    omega
  omega
def alt (f:Int->Int) (k e:Int):Int:=if e % 2=1/\e<k then-f e else f e
theorem y9g {f:Int->Int} (h: ∀e,f e≠0->0<=e/\e<=7) (e:Int):f e=alt f 1 e:=by
 unfold alt
 split
 ·by_cases h0:f e=0
  ·rw [h0];rfl
  ·have:=h e h0;omega
 ·rfl
theorem y2f (f:Int->Int) {k:Int} (hk:k % 2=1) (e:Int):alt f k e-(if e=k then 2*f k else 0)=alt f (k+2) e:=by
 unfold alt
 by_cases h:e=k
 ·subst h
  rw [if_neg (by omega),if_pos rfl,if_pos (by omega)];omega
 ·rw [if_neg h]
  by_cases h1:e % 2=1/\e<k
  ·rw [if_pos h1,if_pos (by omega)];omega
  ·rw [if_neg h1,if_neg (by omega)];omega
theorem y58 {f:Int->Int} {k hi:Int} (h: ∀e,f e≠0->e<=hi) (hk:hi<k) (e:Int):Hs.par e*f e=alt f k e:=by
 unfold alt Hs.par
 by_cases h0:f e=0
 ·rw [h0];simp
 ·have:=h e h0
  by_cases h1:e % 2=0
  ·rw [if_pos h1,if_neg (by omega),Int.one_mul]
  ·rw [if_neg h1,if_pos (by omega),Int.neg_one_mul]
theorem yv2 {M:List (Int×Int)} {f:Int->Int} {k:Int} (hM:ybw M (alt f k)) (h0: ∀e,f e≠0->0<=e/\e<=7) (hb: ∀e,-1000000000000<=f e/\f e<=1000000000000) (hk:k % 2=1) (hk1:1<=k) (hk2:k<=20):
  ∃r,ybw r (alt f (k+2))/\Fn Tryd.prog 14 [plA false M,plA false (trm (2*f k) k)] (plA false r):=by
 have ha: ∀e,alt f k e≠0->0<=e/\e<=7:=fun e he=>by
  unfold alt at he
  split at he
  ·exact h0 e (by omega)
  ·exact h0 e he
 obtain ⟨r,r1,r2⟩:=y7r hM (y68 (2*f k) k) (fun e he=>by have:=ha e he;omega) (fun e he=>by
  by_cases h:e=k
  ·omega
  ·rw [if_neg h] at he;exact absurd rfl he) (fun e=>by
  have:=hb e
  unfold alt
  split<;>omega) (fun e=>by
  have:=hb k
  split<;>omega)
 exact ⟨r,r1.congr fun e=>y2f f hk e,r2⟩
theorem yj9 {s m:List Int} {L:Int} (hv:yag s m L=true) (e:Int):cwF (exS s fun _=>true) (exM s m fun _=>true) L e=Hs.par e*cwF s m L e:=by
 unfold cwF;rw [Hs.HF_mirror (Hs.Xc_good e) hv,Hs.HF_Xf]
theorem yv3 {s m:List Int} {L:Int} (hv:yag s m L=true) (e:Int):cwF (sgM s (fun _=> -1) s.length) (mvM m (fun h=>yao h (4-2*(h % 4))) m.length) L e=Hs.par e*cwF s m L e:=by
 unfold cwF;rw [Hs.HF_reflect hv,Hs.HF_Xf]
theorem yv4 {s m:List Int} {L:Int} (hv:yag s m L=true) (e:Int):cwF (sgM s (fun _=>1) s.length) (mvM m (fun h=>yao h 2) m.length) L e=cwF s m L e:=Hs.HF_reverse (Hs.Xc_good e) hv
theorem y2g {s m:List Int} {L:Int} (hv:yag s m L=true) {o nu:Nat->Nat} (h:Ord s.length o nu) (e:Int):cwF (rnS s o s.length) (rnM m o nu s.length) L e=cwF s m L e:=Hs.HF_renum (Hs.Xc_good e) hv h
theorem ymb (s m:List Int) (L:Int) (o:List Int):Fn Tryd.prog 3 [dgA s m L,roI o] (.bool true):=by
 have hA:=yvf
 have hG:=yvg s m L
 cases hg:grB s m L with
 |true=>
  rw [hg] at hG
  refine Fn.intro [.tmp 4] Tryd.func3 rfl rfl (by decide) (by simp [Tryd.ntmps3]) ?_;rw [Tryd.ntmps3]
  repeat' (first|omega|(try apply yaa);simp only [go_sem,sevalprocAttr,hA]|(refine ⟨yae.fn (r:=?_) rfl ?_ ?_⟩;rotate_left;assumption)|(refine ⟨ya6.fn (r:=?_) rfl ?_ ?_⟩;rotate_left;assumption)|apply yab<;>(intro h_;(try simp only [h_]);revert h_)|apply And.intro|with_reducible intro h_|trivial|simp only [go_sem,la2];omega)
 |false=>
 rw [hg] at hG
 by_cases ho:20<o.length
 ·have c20:decide ((20:Int)<o.length)=true:=by simp;omega
  refine Fn.intro [.tmp 4] Tryd.func3 rfl rfl (by decide) (by simp [Tryd.ntmps3]) ?_;rw [Tryd.ntmps3]
  repeat' (first|omega|(try apply yaa);simp only [go_sem,sevalprocAttr,c20]|(refine ⟨yae.fn (r:=?_) rfl ?_ ?_⟩;rotate_left;assumption)|(refine ⟨ya6.fn (r:=?_) rfl ?_ ?_⟩;rotate_left;assumption)|apply yab<;>(intro h_;(try simp only [h_]);revert h_)|apply And.intro|with_reducible intro h_|trivial|simp only [go_sem,la2];omega)
 have c20:decide ((20:Int)<o.length)=false:=by simp;omega
 have off: ∀(e:Int),e≠0->Fn Tryd.prog 6 [dgA s m L] (.tup [plA false [],I e])->Fn Tryd.prog 3 [dgA s m L,roI o] (.bool true):=fun e he hB=>by
  have be:(e !=0)=true:=by simpa using he
  refine Fn.intro [.tmp 4] Tryd.func3 rfl rfl (by decide) (by simp [Tryd.ntmps3]) ?_;rw [Tryd.ntmps3]
  repeat' (first|omega|(try apply yaa);simp only [go_sem,sevalprocAttr,c20,be]|(refine ⟨yae.fn (r:=?_) rfl ?_ ?_⟩;rotate_left;assumption)|(refine ⟨ya6.fn (r:=?_) rfl ?_ ?_⟩;rotate_left;assumption)|apply yab<;>(intro h_;(try simp only [h_]);revert h_)|apply And.intro|with_reducible intro h_|trivial|simp only [go_sem,la2];omega)
 cases hv:yag s m L with
 |false=>exact off 1 (by decide) (y1w s m L hv)
 |true=>
 have v1:=yan hv
 have hl0:=v1.l0
 have hl1:=v1.l64
 have h64:=v1.s64
 have hml:=v1.len
 simp only [grB,Bool.or_eq_false_iff,Bool.and_eq_false_iff,decide_eq_false_iff_not] at hg
 have hL:L<=10:=by omega
 obtain ⟨l,rfl⟩: ∃l:Nat,L=l:=⟨L.toNat,by omega⟩
 by_cases h0:s.length=0/\l=0
 ·have hs0:s=[]:=List.length_eq_zero_iff.1 h0.1
  obtain ⟨_,rfl⟩:=h0
  subst hs0
  exact off 8 (by decide) (y1x m hv)
 by_cases hF:14<s.length
 ·exact off 5 (by decide) (y1y s m l hv hF)
 have hn:s.length<=7:=by omega
 obtain ⟨P,p1,p2,p3,p4⟩:=yg7 hv (by omega) (by omega) h0
 have vX:=yj5 hv
 have vY:=ypb hv
 have vZ:=yjf hv
 have lX:(exS s fun _=>true).length=s.length:=by unfold exS;rw [yb3]
 have lY:(sgM s (fun _=> -1) s.length).length=s.length:=yb3 _ _ _
 have lZ:(sgM s (fun _=>1) s.length).length=s.length:=yb3 _ _ _
 have hX:=yzh s m l hv
 have hY:=yvy s m l hv
 have hZ:=yvz s m l hv
 obtain ⟨Q,x1,x2,_,_⟩:=yg7 vX (by rw [lX];omega) (by omega) (by rw [lX];exact h0)
 obtain ⟨R,y1,y2,_,_⟩:=yg7 vY (by rw [lY];omega) (by omega) (by rw [lY];exact h0)
 obtain ⟨T,z1,z2,_,_⟩:=yg7 vZ (by rw [lZ];omega) (by omega) (by rw [lZ];exact h0)
 have hRQ:Q=R:=AscN.ext x1.asc y1.asc fun e=>by rw [y1.cf,x1.cf,yj9 hv,yv3 hv]
 have hTP:P=T:=AscN.ext p1.asc z1.asc fun e=>by rw [z1.cf,p1.cf,yv4 hv]
 subst hRQ hTP
 have h7: ∀e,cwF s m l e≠0->0<=e/\e<=7:=fun e he=>by have:=p3 e he;omega
 have hPl:P.length<=2001:=p1.len fun e he=>by have:=h7 e he;omega
 have hQe: ∀e,cfL Q e=Hs.par e*cwF s m l e:=fun e=>by rw [x1.cf,yj9 hv]
 have hQa:=x1.asc
 obtain ⟨t0,t1,t2,t3⟩:=y57 p1 h7
 have qE:=yr4 P (by omega)
 have qL:=y56 P
 have qH:=y2e P (by omega)
 have hCo: ∀k,Fn Tryd.prog 16 [plA false P,I k] (I (cwF s m l k)):=fun k=>by
  have:=y5z P k p1.asc (by omega)
  rwa [p1.cf] at this
 obtain ⟨x,e,hR,hRe⟩: ∃(x:AV) (e:Int),Fn Tryd.prog 12 [dgA s m l,roI o] (.tup [x,I e])/\((x=emD/\e=2)\/(∃s' m',x=dgA s' m' l/\e=0/\Fn Tryd.prog 6 [dgA s' m' l] (.tup [plA false P,I 0]))):=by
  by_cases hol:o.length=s.length
  ·rcases yr6 o s.length s.length with h|⟨k,h1,h2,h3⟩
   ·have hor:=yzj hol h
    have vW:=yr5 hv hor
    have lW:(rnS s (fun i=>(o.getD i 0).toNat) s.length).length=s.length:=by simp [rnS]
    obtain ⟨W,w1,w2,_,_⟩:=yg7 vW (by rw [lW];omega) (by omega) (by rw [lW];exact h0)
    have hWP:P=W:=AscN.ext p1.asc w1.asc fun e=>by rw [w1.cf,p1.cf,y2g hv hor]
    subst hWP
    exact ⟨_,_,ysx s m l o hv hol h, .inr ⟨_,_,rfl,rfl,w2⟩⟩
   ·exact ⟨_,_,yr8 s m l o hv hol k h1 h2 h3, .inl ⟨rfl,rfl⟩⟩
  ·exact ⟨_,_,yr7 s m l o hv hol (by omega), .inl ⟨rfl,rfl⟩⟩
 have hM0:ybw P (alt (cwF s m l) 1):=p1.congr (y9g h7)
 have hfin: ∀{M:List (Int×Int)} {k:Int},ybw M (alt (cwF s m l) k)->hiC P<k->M=Q:=fun {M k} hM hk=>AscN.ext hM.asc hQa fun e=>by rw [hM.cf,hQe,y58 t3 hk]
 have hstep:=fun {M:List (Int×Int)} {k:Int} (hM:ybw M (alt (cwF s m l) k))=>yv2 hM h7 p4
 have hQl:Q.length<=1000000:=by
  have:=x1.len (fun e he=>?_)
  ·omega
  ·rw [yj9 hv] at he
   by_cases h:cwF s m l e=0
   ·rw [h,Int.mul_zero] at he;exact absurd rfl he
   ·have:=h7 e h;omega
 have qQ:=yr4 Q hQl
 have hTm:=fun k (h: -1048576<=k/\k<=1048576)=>y5w (2*cwF s m l k) k (by have:=p4 k;omega) h
 clear vX vY vZ lX lY lZ x1 y1 z1 hg hv v1 hQe p1 p3
 generalize cwF s m l=f at*
 generalize (exS s fun _=>true)=sX at*
 generalize (exM s m fun _=>true)=mX at*
 generalize sgM s (fun _=> -1) s.length=sY at*
 generalize mvM m (fun h=>yao h (4-2*(h % 4))) m.length=mY at*
 generalize sgM s (fun _=>1) s.length=sZ at*
 generalize mvM m (fun h=>yao h 2) m.length=mZ at*
 have cl:decide (loC P<0)=false:=by rw [decide_eq_false_iff_not];omega
 have ch:decide ((20:Int)<hiC P)=false:=by rw [decide_eq_false_iff_not];omega
 rcases hRe with ⟨rfl,rfl⟩|⟨s',m',rfl,rfl,bW⟩
 ·refine Fn.intro [.tmp 4] Tryd.func3 rfl rfl (by decide) (by simp [Tryd.ntmps3]) ?_;rw [Tryd.ntmps3]
  repeat' (first|omega|(try apply yaa);simp only [go_sem,sevalprocAttr,c20,cl,ch]|(refine ⟨yae.fn (r:=?_) rfl ?_ ?_⟩;rotate_left;assumption)|(refine ⟨ya6.fn (r:=?_) rfl ?_ ?_⟩;rotate_left;assumption)|apply yab<;>(intro h_;(try simp only [h_]);revert h_)|apply And.intro|with_reducible intro h_|trivial|simp only [go_sem,la2];omega)
  refine ya0.intro (fun n' fr H=> ∃(k:Int) (M:List (Int×Int)),ybw M (alt f k)/\k % 2=1/\1<=k/\k<=hiC P+2/\n'=(hiC P+2-k).toNat/\fr=[(24,I k),(23, .ptr 9 0),(17, .ptr 7 0),(15, .ptr 6 0),(13, .ptr 5 0),(5, .ptr 1 0)]/\
   H=[(9, .cells 29 (.lst [.bool false,tmA M])),(8, .cells 24 (.lst [.nils, .nils,I 0])),(7, .cells 29 (.lst [.bool false,tmA P])),(6, .cells 29 (.lst [.bool false,tmA Q])),(5, .cells 29 (.lst [.bool false,tmA Q])),(4, .cells 24 (.lst [roI sZ,roI mZ,I l])),(3, .cells 24 (.lst [roI sY,roI mY,I l])),(2, .cells 24 (.lst [roI sX,roI mX,I l])),(1, .cells 29 (.lst [.bool false,tmA P])),(0, .cells 24 (.lst [roI s,roI m,I l]))]) ?_ ?_
  ·refine ⟨_,_,_,Wk.sub ?_ ?_,1,P,hM0,by decide,by decide,by omega,rfl,rfl,rfl⟩
   ·simp only [go_sem,sevalprocAttr]
   ·simp only [go_sem,sevalprocAttr,yd0]
  rintro n' fr H ⟨k,M,hM,hk2,hk1,hk0,rfl,rfl,rfl⟩
  by_cases hkh:k<=hiC P
  ·have bk:decide (k<=hiC P)=true:=decide_eq_true hkh
   obtain ⟨r,r1,r2⟩:=hstep hM hk2 hk1 (by omega)
   have hk:=hCo k
   have ht:=hTm k (by omega)
   have hw:IntKind.i64.wrap (2*f k)=2*f k:=IntWalk.i64_in _ (by have:=p4 k;omega)
   have hf1: -9223372036854775808<=2*f k:=by have:=p4 k;omega
   have hf2:2*f k<=9223372036854775807:=by have:=p4 k;omega
   have hnext:(hiC P+2-(k+2)).toNat<(hiC P+2-k).toNat:=by omega
   repeat' (first|omega|(first|apply yaa|(refine yac.intro (id:=25) yf3 [[],[0],[0,1],[0],[0],[0,1,2,3,4],[0],[],[]] (by decide+kernel) mixed ?_)|skip);simp only [go_sem,sevalprocAttr,bk,hw,↓reduceIte,reduceCtorEq,yf3]|(refine ⟨yae.fn (r:=?_) rfl ?_ ?_⟩;rotate_left;assumption)|(refine ⟨ya6.fn (r:=?_) rfl ?_ ?_⟩;rotate_left;assumption)|apply yab<;>(intro h_;(try simp only [h_]);revert h_)|apply And.intro|with_reducible intro h_|trivial|simp only [go_sem,la2];omega)
   refine ⟨_,_,_,?_,Wk.sub ?_ ?_,k+2,r,r1,by omega,by omega,by omega,rfl,rfl,rfl⟩
   ·exact hnext
   ·simp only [go_sem,sevalprocAttr]
   ·simp only [go_sem,sevalprocAttr,yd0]
  ·have bk:decide (k<=hiC P)=false:=decide_eq_false hkh
   obtain rfl:=hfin hM (by omega)
   repeat' (first|omega|(first|apply yaa|(refine yac.intro (id:=25) yf3 [[],[0],[0,1],[0],[0],[0,1,2,3,4],[0],[],[]] (by decide+kernel) mixed ?_)|skip);simp only [go_sem,sevalprocAttr,bk,↓reduceIte,reduceCtorEq,yf3]|(refine ⟨yae.fn (r:=?_) rfl ?_ ?_⟩;rotate_left;assumption)|(refine ⟨ya6.fn (r:=?_) rfl ?_ ?_⟩;rotate_left;assumption)|apply yab<;>(intro h_;(try simp only [h_]);revert h_)|apply And.intro|with_reducible intro h_|trivial|simp only [go_sem,la2];omega)
 ·refine Fn.intro [.tmp 4] Tryd.func3 rfl rfl (by decide) (by simp [Tryd.ntmps3]) ?_;rw [Tryd.ntmps3]
  repeat' (first|omega|(try apply yaa);simp only [go_sem,sevalprocAttr,c20,cl,ch]|(refine ⟨yae.fn (r:=?_) rfl ?_ ?_⟩;rotate_left;assumption)|(refine ⟨ya6.fn (r:=?_) rfl ?_ ?_⟩;rotate_left;assumption)|apply yab<;>(intro h_;(try simp only [h_]);revert h_)|apply And.intro|with_reducible intro h_|trivial|simp only [go_sem,la2];omega)
  refine ya0.intro (fun n' fr H=> ∃(k:Int) (M:List (Int×Int)),ybw M (alt f k)/\k % 2=1/\1<=k/\k<=hiC P+2/\n'=(hiC P+2-k).toNat/\fr=[(24,I k),(23, .ptr 10 0),(17, .ptr 7 0),(15, .ptr 6 0),(13, .ptr 5 0),(5, .ptr 1 0)]/\
   H=[(10, .cells 29 (.lst [.bool false,tmA M])),(9, .cells 29 (.lst [.bool false,tmA P])),(8, .cells 24 (.lst [roI s',roI m',I l])),(7, .cells 29 (.lst [.bool false,tmA P])),(6, .cells 29 (.lst [.bool false,tmA Q])),(5, .cells 29 (.lst [.bool false,tmA Q])),(4, .cells 24 (.lst [roI sZ,roI mZ,I l])),(3, .cells 24 (.lst [roI sY,roI mY,I l])),(2, .cells 24 (.lst [roI sX,roI mX,I l])),(1, .cells 29 (.lst [.bool false,tmA P])),(0, .cells 24 (.lst [roI s,roI m,I l]))]) ?_ ?_
  ·refine ⟨_,_,_,Wk.sub ?_ ?_,1,P,hM0,by decide,by decide,by omega,rfl,rfl,rfl⟩
   ·simp only [go_sem,sevalprocAttr]
   ·simp only [go_sem,sevalprocAttr,yd0]
  rintro n' fr H ⟨k,M,hM,hk2,hk1,hk0,rfl,rfl,rfl⟩
  by_cases hkh:k<=hiC P
  ·have bk:decide (k<=hiC P)=true:=decide_eq_true hkh
   obtain ⟨r,r1,r2⟩:=hstep hM hk2 hk1 (by omega)
   have hk:=hCo k
   have ht:=hTm k (by omega)
   have hw:IntKind.i64.wrap (2*f k)=2*f k:=IntWalk.i64_in _ (by have:=p4 k;omega)
   have hf1: -9223372036854775808<=2*f k:=by have:=p4 k;omega
   have hf2:2*f k<=9223372036854775807:=by have:=p4 k;omega
   have hnext:(hiC P+2-(k+2)).toNat<(hiC P+2-k).toNat:=by omega
   repeat' (first|omega|(first|apply yaa|(refine yac.intro (id:=25) yf3 [[],[0],[0,1],[0],[0],[0,1,2,3,4],[0],[],[]] (by decide+kernel) mixed ?_)|skip);simp only [go_sem,sevalprocAttr,bk,hw,↓reduceIte,reduceCtorEq,yf3]|(refine ⟨yae.fn (r:=?_) rfl ?_ ?_⟩;rotate_left;assumption)|(refine ⟨ya6.fn (r:=?_) rfl ?_ ?_⟩;rotate_left;assumption)|apply yab<;>(intro h_;(try simp only [h_]);revert h_)|apply And.intro|with_reducible intro h_|trivial|simp only [go_sem,la2];omega)
   refine ⟨_,_,_,?_,Wk.sub ?_ ?_,k+2,r,r1,by omega,by omega,by omega,rfl,rfl,rfl⟩
   ·exact hnext
   ·simp only [go_sem,sevalprocAttr]
   ·simp only [go_sem,sevalprocAttr,yd0]
  ·have bk:decide (k<=hiC P)=false:=decide_eq_false hkh
   obtain rfl:=hfin hM (by omega)
   repeat' (first|omega|(first|apply yaa|(refine yac.intro (id:=25) yf3 [[],[0],[0,1],[0],[0],[0,1,2,3,4],[0],[],[]] (by decide+kernel) mixed ?_)|skip);simp only [go_sem,sevalprocAttr,bk,↓reduceIte,reduceCtorEq,yf3]|(refine ⟨yae.fn (r:=?_) rfl ?_ ?_⟩;rotate_left;assumption)|(refine ⟨ya6.fn (r:=?_) rfl ?_ ?_⟩;rotate_left;assumption)|apply yab<;>(intro h_;(try simp only [h_]);revert h_)|apply And.intro|with_reducible intro h_|trivial|simp only [go_sem,la2];omega)
end Go.Proofs.YtjpnnnognoaaiaaDoor
