/- Plain: a walker along a diagram, that resolves the crossings as it meets them; the skein relation. -/
namespace Go.Proofs.YtjpbeacamoijhaaDoor
set_option linter.unusedSimpArgs false
set_option linter.unusedVariables false
namespace Hs
def upd {α:Type} (f:Nat->α) (a:Nat) (v:α):Nat->α:=fun x=>if x=a then v else f x
theorem yac {α:Type} (f:Nat->α) (a:Nat) (v:α):upd f a v a=v:=if_pos rfl
theorem yae {α:Type} (f:Nat->α) {a x:Nat} (v:α) (h:x≠a):upd f a v x=f x:=if_neg h
theorem yt8 {α:Type} (f:Nat->α) (a:Nat) (v w:α):upd (upd f a v) a w=upd f a w:=by
 funext x;unfold upd;split<;>rfl
theorem yis {α:Type} (f:Nat->α) {a b:Nat} (v w:α) (h:a≠b):upd (upd f a v) b w=upd (upd f b w) a v:=by
 funext x;unfold upd
 by_cases h1:x=b
 ·subst h1;rw [if_pos rfl,if_neg (Ne.symm h),if_pos rfl]
 ·rw [if_neg h1]
  by_cases h2:x=a
  ·rw [if_pos h2,if_pos h2]
  ·rw [if_neg h2,if_neg h2,if_neg h1]
structure WS where
 st:Nat->Nat
 vis:Nat->Bool
 i:Int
 j:Int
 k:Nat
def WS.sc (S:WS) (a b:Int):WS:={S with i:=S.i+a,j:=S.j+b}
def WS.mk' (S:WS) (a v:Nat):WS:={S with st:=upd S.st (a/2) v,vis:=upd S.vis a true}
def WS.sx (S:WS) (x v:Nat):WS:={S with st:=upd S.st x v}
def WS.cr (S:WS):WS:={S with k:=S.k+1}
theorem WS.sc_sc (S:WS) (a b c d:Int):(S.sc a b).sc c d=S.sc (a+c) (b+d):=by
 unfold WS.sc;simp only [WS.mk.injEq,true_and,and_true];exact ⟨by omega,by omega⟩
theorem WS.sc_zero (S:WS):S.sc 0 0=S:=by unfold WS.sc;simp
theorem WS.sc_mk (S:WS) (a b:Int) (e v:Nat):(S.sc a b).mk' e v=(S.mk' e v).sc a b:=rfl
theorem WS.sc_cr (S:WS) (a b:Int):(S.sc a b).cr=S.cr.sc a b:=rfl
theorem WS.sc_sx (S:WS) (a b:Int) (x v:Nat):(S.sc a b).sx x v=(S.sx x v).sc a b:=rfl
theorem WS.sx_cr (S:WS) (x v:Nat):(S.sx x v).cr=S.cr.sx x v:=rfl
theorem WS.sx_mk (S:WS) {e x:Nat} (v q:Nat) (h:e/2=x):(S.sx x q).mk' e v=S.mk' e v:=by
 unfold WS.sx WS.mk';subst h;simp only [yt8]
def co (a:Nat):Nat:=if a % 2=0 then a+1 else a-1
theorem yao (a:Nat):co a/2=a/2:=by unfold co;split<;>omega
theorem yax (a:Nat):co (co a)=a:=by unfold co;split<;>split<;>omega
theorem ycw (a:Nat):co a≠a:=by unfold co;split<;>omega
theorem yg1 (a:Nat):co a % 2=1-a % 2:=by unfold co;split<;>omega
theorem ya4 {a n:Nat} (h:a<2*n):co a<2*n:=by unfold co;split<;>omega
theorem ybi {a b:Nat} (h:a/2=b/2):a=b\/a=co b:=by unfold co;split<;>omega
structure Sh where
 n:Nat
 nx:Nat->Nat
 sg:Nat->Int
def sgn (D:Sh) (q c:Nat):Int:=if q=1 then D.sg c else-D.sg c
def br (D:Sh) (S:WS) (a:Nat):List (Int×WS×Nat):=
 if 2*D.n<=a then []
 else if S.st (a/2)=2 then [(1,S.mk' a 4,D.nx (co a))]
 else if S.st (a/2)=3 then [(1,S.mk' a 4,D.nx a)]
 else if S.st (a/2)=5 then [(1,S.mk' a 2,D.nx (co a))]
 else if S.st (a/2)=a % 2 then [(1,S.mk' a 3,D.nx a)]
 else if S.st (a/2)=1-a % 2 then [(1,(S.mk' a 3).sc (2*sgn D (S.st (a/2)) (a/2)) 0,D.nx a),(sgn D (S.st (a/2)) (a/2),(S.mk' a 2).sc (sgn D (S.st (a/2)) (a/2)) 1,D.nx (co a))]
 else []
def sumB:List (Int×WS×Nat)->(WS->Nat->Int)->Int
 |[],_=>0
 |x::l,F=>x.1*F x.2.1 x.2.2+sumB l F
theorem ybm {F G:WS->Nat->Int}: ∀{l:List (Int×WS×Nat)},(∀x∈l,F x.2.1 x.2.2=G x.2.1 x.2.2)->sumB l F=sumB l G
 |[],_=>rfl
 |x::l,h=>by
  simp only [sumB]
  rw [h x (.head _),ybm fun y hy=>h y (.tail _ hy)]
theorem yit {F G:WS->Nat->Int}: ∀{l:List (Int×WS×Nat)},sumB l (fun S a=>F S a+G S a)=sumB l F+sumB l G
 |[]=>rfl
 |x::l=>by
  simp only [sumB]
  rw [yit (l:=l),Int.mul_add];omega
theorem yq2 {F:WS->Nat->Int} (c:Int): ∀{l:List (Int×WS×Nat)},sumB l (fun S a=>c*F S a)=c*sumB l F
 |[]=>by simp [sumB]
 |x::l=>by
  simp only [sumB]
  rw [yq2 c (l:=l),Int.mul_add,Int.mul_left_comm]
def mapS (f:WS->WS) (x:Int×WS×Nat):Int×WS×Nat:=(x.1,f x.2.1,x.2.2)
theorem yiu {F:WS->Nat->Int} (f:WS->WS): ∀{l:List (Int×WS×Nat)},sumB (l.map (mapS f)) F=sumB l (fun S a=>F (f S) a)
 |[]=>rfl
 |x::l=>by
  simp only [List.map,sumB,mapS]
  rw [yiu f (l:=l)]
def unv (v:Nat->Bool):Nat->Nat
 |0=>0
 |b+1=>unv v b+if v b then 0 else 1
theorem yt9 (v:Nat->Bool) (a:Nat) (h:v a=false): ∀b,unv (upd v a true) b+(if a<b then 1 else 0)=unv v b
 |0=>rfl
 |b+1=>by
  simp only [unv]
  have:=yt9 v a h b
  by_cases hb:b=a
  ·subst hb
   rw [yac,h]
   simp at this⊢
   omega
  ·rw [yae _ _ hb]
   by_cases h1:a<b
   ·rw [if_pos h1] at this;rw [if_pos (show a<b+1 by omega)];omega
   ·rw [if_neg h1] at this;rw [if_neg (show¬a<b+1 by omega)];omega
def fu (D:Sh) (S:WS):Nat:=unv S.vis (2*D.n)
theorem ydj {D:Sh} {S:WS} {a:Nat} {x:Int×WS×Nat} (h:x∈br D S a):a<2*D.n/\x.2.1.vis=upd S.vis a true:=by
 unfold br at h
 split at h
 ·cases h
 ·refine ⟨by omega,?_⟩
  split at h
  ·rw [List.mem_singleton] at h;subst h;rfl
  split at h
  ·rw [List.mem_singleton] at h;subst h;rfl
  split at h
  ·rw [List.mem_singleton] at h;subst h;rfl
  split at h
  ·rw [List.mem_singleton] at h;subst h;rfl
  split at h
  ·rcases List.mem_cons.1 h with h|h
   ·subst h;rfl
   ·rw [List.mem_singleton] at h;subst h;rfl
  ·cases h
theorem ygc {D:Sh} {S:WS} {a:Nat} {x:Int×WS×Nat} (h:x∈br D S a) (hv:S.vis a=false):fu D x.2.1+1=fu D S:=by
 obtain ⟨h1,h2⟩:=ydj h
 have:=yt9 S.vis a hv (2*D.n)
 rw [if_pos h1] at this
 unfold fu;rw [h2];exact this
def Wf (D:Sh) (stop:Nat->Bool):Nat->WS->Nat->(WS->Nat->Int)->Int
 |0,_,_,_=>0
 |f+1,S,a,k=>if stop a=true then k S a else if S.vis a=true then 0 else sumB (br D S a) fun S' b=>Wf D stop f S' b k
def W (D:Sh) (stop:Nat->Bool) (S:WS) (a:Nat) (k:WS->Nat->Int):Int:=Wf D stop (fu D S+1) S a k
theorem W_eq (D:Sh) (stop:Nat->Bool) (S:WS) (a:Nat) (k:WS->Nat->Int):W D stop S a k=if stop a=true then k S a else if S.vis a=true then 0 else sumB (br D S a) fun S' b=>W D stop S' b k:=by
 show (if stop a=true then k S a else if S.vis a=true then 0 else sumB (br D S a) fun S' b=>Wf D stop (fu D S) S' b k)=_
 split
 ·rfl
 split
 ·rfl
 ·rename_i h
  refine ybm fun x hx=>?_
  show Wf D stop (fu D S) x.2.1 x.2.2 k=Wf D stop (fu D x.2.1+1) x.2.1 x.2.2 k
  rw [ygc hx (by simpa using h)]
theorem yaz {D:Sh} {stop:Nat->Bool} {S:WS} {a:Nat} {k:WS->Nat->Int} (h:stop a=true):W D stop S a k=k S a:=by rw [W_eq,if_pos h]
theorem yej {D:Sh} {stop:Nat->Bool} {S:WS} {a:Nat} {k:WS->Nat->Int} (h:stop a=false) (hv:S.vis a=true):W D stop S a k=0:=by
 rw [W_eq,if_neg (by simp [h]),if_pos hv]
theorem W_go {D:Sh} {stop:Nat->Bool} {S:WS} {a:Nat} {k:WS->Nat->Int} (h:stop a=false) (hv:S.vis a=false):W D stop S a k=sumB (br D S a) fun S' b=>W D stop S' b k:=by
 rw [W_eq,if_neg (by simp [h]),if_neg (by simp [hv])]
inductive BR (R:WS->Nat->WS->Nat->Prop):List (Int×WS×Nat)->List (Int×WS×Nat)->Prop
 |nil:BR R [] []
 |cons {c S a S' a' l l'}:R S a S' a'->BR R l l'->BR R ((c,S,a)::l) ((c,S',a')::l')
theorem BR.sum {R:WS->Nat->WS->Nat->Prop} {F G:WS->Nat->Int} {l l':List (Int×WS×Nat)} (h:BR R l l') (hF: ∀x∈l,∀S' a',R x.2.1 x.2.2 S' a'->F x.2.1 x.2.2=G S' a'):sumB l F=sumB l' G:=by
 induction h with
 |nil=>rfl
 |cons hr _ ih=>
  simp only [sumB]
  rw [ih fun y hy=>hF y (.tail _ hy),hF _ (.head _) _ _ hr]
theorem BR.refl' {R:WS->Nat->WS->Nat->Prop}: ∀{l:List (Int×WS×Nat)},(∀x∈l,R x.2.1 x.2.2 x.2.1 x.2.2)->BR R l l
 |[],_=> .nil
 |x::l,h=> .cons (h x (.head _)) (BR.refl' fun y hy=>h y (.tail _ hy))
theorem Wsim {D D':Sh} {stop stop':Nat->Bool} {k k':WS->Nat->Int} (R:WS->Nat->WS->Nat->Prop)
  (h: ∀S a S' a',R S a S' a'->stop a=stop' a'/\(stop a=true->k S a=k' S' a')/\(stop a=false->S.vis a=S'.vis a'/\(S.vis a=false->BR R (br D S a) (br D' S' a')))):
  ∀S a S' a',R S a S' a'->W D stop S a k=W D' stop' S' a' k':=by
 have key: ∀n S a S' a',fu D S<=n->R S a S' a'->W D stop S a k=W D' stop' S' a' k':=fun n=>by
  induction n with
  |zero=>
   intro S a S' a' hn hR
   obtain ⟨h1,h2,h3⟩:=h S a S' a' hR
   cases hs:stop a with
   |true=>rw [yaz hs,yaz (h1▸hs),h2 hs]
   |false=>
    obtain ⟨h4,h5⟩:=h3 hs
    cases hv:S.vis a with
    |true=>rw [yej hs hv,yej (h1▸hs) (h4▸hv)]
    |false=>
     rw [W_go hs hv,W_go (h1▸hs) (h4▸hv)]
     refine (h5 hv).sum fun x hx=>?_
     have:=ygc hx hv
     omega
  |succ n ih=>
   intro S a S' a' hn hR
   obtain ⟨h1,h2,h3⟩:=h S a S' a' hR
   cases hs:stop a with
   |true=>rw [yaz hs,yaz (h1▸hs),h2 hs]
   |false=>
    obtain ⟨h4,h5⟩:=h3 hs
    cases hv:S.vis a with
    |true=>rw [yej hs hv,yej (h1▸hs) (h4▸hv)]
    |false=>
     rw [W_go hs hv,W_go (h1▸hs) (h4▸hv)]
     refine (h5 hv).sum fun x hx S'' a'' hR'=>?_
     have:=ygc hx hv
     exact ih _ _ _ _ (by omega) hR'
 exact fun S a S' a'=>key _ S a S' a' (Nat.le_refl _)
theorem yhv {D:Sh} {stop:Nat->Bool} {k k':WS->Nat->Int} (I:WS->Nat->Prop) (hs: ∀S a,I S a->stop a=false->S.vis a=false-> ∀x∈br D S a,I x.2.1 x.2.2) (hk: ∀S a,I S a->stop a=true->k S a=k' S a) {S:WS} {a:Nat} (h0:I S a):W D stop S a k=W D stop S a k':=
 Wsim (fun S a S' a'=>S=S'/\a=a'/\I S a) (fun S a S' a' ⟨e1,e2,hI⟩=>by
  subst e1 e2
  exact ⟨rfl,fun h=>hk S a hI h,fun h=>⟨rfl,fun hv=>BR.refl' fun x hx=>⟨rfl,rfl,hs S a hI h hv x hx⟩⟩⟩) S a S a ⟨rfl,rfl,h0⟩
theorem ywg {D:Sh} {stop:Nat->Bool} {k k':WS->Nat->Int}: ∀{S:WS} {a:Nat},W D stop S a (fun S b=>k S b+k' S b)=W D stop S a k+W D stop S a k':=by
 have key: ∀f S a,Wf D stop f S a (fun S b=>k S b+k' S b)=Wf D stop f S a k+Wf D stop f S a k':=fun f=>by
  induction f with
  |zero=>intros;rfl
  |succ f ih=>
   intro S a
   simp only [Wf]
   split
   ·rfl
   split
   ·rfl
   ·rw [←yit];exact ybm fun x _=>ih _ _
 exact fun {S a}=>key _ S a
theorem y9b {D:Sh} {stop:Nat->Bool} {k:WS->Nat->Int} (c:Int): ∀{S:WS} {a:Nat},W D stop S a (fun S b=>c*k S b)=c*W D stop S a k:=by
 have key: ∀f S a,Wf D stop f S a (fun S b=>c*k S b)=c*Wf D stop f S a k:=fun f=>by
  induction f with
  |zero=>intros;simp [Wf]
  |succ f ih=>
   intro S a
   simp only [Wf]
   split
   ·rfl
   split
   ·simp
   ·rw [←yq2];exact ybm fun x _=>ih _ _
 exact fun {S a}=>key _ S a
theorem yq3 {D:Sh} {s1 s2:Nat->Bool} {k:WS->Nat->Int} (h: ∀a,s2 a=true->s1 a=true): ∀(S:WS) (a:Nat),W D s2 S a k=W D s1 S a fun S' b=>W D s2 S' b k:=by
 have key: ∀n S a,fu D S<=n->W D s2 S a k=W D s1 S a fun S' b=>W D s2 S' b k:=fun n=>by
  induction n with
  |zero=>
   intro S a hn
   cases h1:s1 a with
   |true=>rw [yaz h1]
   |false=>
    have h2:s2 a=false:=by
     cases e:s2 a with
     |false=>rfl
     |true=>rw [h a e] at h1;cases h1
    cases hv:S.vis a with
    |true=>rw [yej h1 hv,yej h2 hv]
    |false=>
     rw [W_go h1 hv,W_go h2 hv]
     refine ybm fun x hx=>?_
     have:=ygc hx hv
     omega
  |succ n ih=>
   intro S a hn
   cases h1:s1 a with
   |true=>rw [yaz h1]
   |false=>
    have h2:s2 a=false:=by
     cases e:s2 a with
     |false=>rfl
     |true=>rw [h a e] at h1;cases h1
    cases hv:S.vis a with
    |true=>rw [yej h1 hv,yej h2 hv]
    |false=>
     rw [W_go h1 hv,W_go h2 hv]
     refine ybm fun x hx=>?_
     have:=ygc hx hv
     exact ih _ _ (by omega)
 exact fun S a=>key _ S a (Nat.le_refl _)
theorem ywh {D:Sh} {stop:Nat->Bool} {k:WS->Nat->Int} (f:WS->WS) (hv: ∀S a,stop a=false->(f S).vis a=S.vis a) (hb: ∀S a,stop a=false->S.vis a=false->br D (f S) a=(br D S a).map (mapS f)) (S:WS) (a:Nat):W D stop (f S) a k=W D stop S a fun S b=>k (f S) b:=
 Wsim (fun S a S' a'=>S=f S'/\a=a') (fun S a S' a' ⟨e1,e2⟩=>by
  subst e1 e2
  refine ⟨rfl,fun _=>rfl,fun h=>⟨hv _ _ h,fun h2=>?_⟩⟩
  rw [hb _ _ h (by rw [←hv _ _ h];exact h2)]
  generalize br D S' a=l
  induction l with
  |nil=>exact .nil
  |cons x l ih=>exact .cons ⟨rfl,rfl⟩ ih) _ _ _ _ ⟨rfl,rfl⟩
structure Loc (x:Nat) (f:WS->WS):Prop where
 st: ∀S c,c≠x->(f S).st c=S.st c
 vis: ∀S a,a/2≠x->(f S).vis a=S.vis a
 mk1: ∀S a v,a/2≠x->f (S.mk' a v)=(f S).mk' a v
 sc: ∀S u v,f (S.sc u v)=(f S).sc u v
theorem Loc.br {x:Nat} {f:WS->WS} (h:Loc x f) (D:Sh) (S:WS) {a:Nat} (ha:a/2≠x):br D (f S) a=(br D S a).map (mapS f):=by
 unfold Hs.br
 rw [h.st S _ ha]
 split
 ·rfl
 split
 ·simp only [List.map,mapS,h.mk1 _ _ _ ha]
 split
 ·simp only [List.map,mapS,h.mk1 _ _ _ ha]
 split
 ·simp only [List.map,mapS,h.mk1 _ _ _ ha]
 split
 ·simp only [List.map,mapS,h.mk1 _ _ _ ha]
 split
 ·simp only [List.map,mapS,h.sc,h.mk1 _ _ _ ha]
 ·rfl
theorem Loc.comp {x:Nat} {f g:WS->WS} (h:Loc x f) (k:Loc x g):Loc x (fun S=>f (g S)):=
 ⟨fun S c hc=>by rw [h.st _ _ hc,k.st _ _ hc],fun S a ha=>by rw [h.vis _ _ ha,k.vis _ _ ha],fun S a v ha=>by rw [k.mk1 _ _ _ ha,h.mk1 _ _ _ ha],fun S u v=>by rw [k.sc,h.sc]⟩
theorem Loc.sxL (x q:Nat):Loc x (fun S=>S.sx x q):=
 ⟨fun S c hc=>yae _ _ hc,fun S a _=>rfl,fun S a v ha=>by unfold WS.sx WS.mk';simp only [yis _ _ _ ha],fun S u v=>rfl⟩
theorem Loc.mkL {x b:Nat} (q:Nat) (hb:b/2=x):Loc x (fun S=>S.mk' b q):=
 ⟨fun S c hc=>yae _ _ (by rw [hb];exact hc),fun S a ha=>yae _ _ (fun e=>ha (e▸hb)),fun S a v ha=>by
  unfold WS.mk'
  simp only [yis _ _ _ (show a/2≠b/2 by rw [hb];exact ha),yis _ true true (show a≠b from fun e=>ha (e▸hb))],fun S u v=>rfl⟩
theorem Loc.scL (x:Nat) (u v:Int):Loc x (fun S=>S.sc u v):=
 ⟨fun S c hc=>rfl,fun S a _=>rfl,fun S a v ha=>rfl,fun S a b=>by
  show (S.sc a b).sc u v=(S.sc u v).sc a b
  rw [WS.sc_sc,WS.sc_sc];congr 1<;>omega⟩
theorem Loc.W {x:Nat} {f:WS->WS} (h:Loc x f) {D:Sh} {stop:Nat->Bool} {k:WS->Nat->Int} (hs: ∀a,a/2=x->stop a=true) (S:WS) (a:Nat):W D stop (f S) a k=W D stop S a fun S b=>k (f S) b:=by
 have hne: ∀a,stop a=false->a/2≠x:=fun a h e=>by rw [hs a e] at h;cases h
 exact ywh f (fun S a h'=>h.vis S a (hne a h')) (fun S a h' _=>h.br D S (hne a h')) S a
theorem y3p (D:Sh) (S:WS) (a:Nat) (u v:Int):br D (S.sc u v) a=(br D S a).map (mapS fun S=>S.sc u v):=
 (Loc.scL (a/2+1) u v).br D S (by omega)
theorem W_sc {D:Sh} {stop:Nat->Bool} {k:WS->Nat->Int} (u v:Int) (S:WS) (a:Nat):W D stop (S.sc u v) a k=W D stop S a fun S b=>k (S.sc u v) b:=
 ywh (fun S=>S.sc u v) (fun S a _=>rfl) (fun S a _ _=>y3p D S a u v) S a
theorem y3q (D:Sh) (S:WS) (a:Nat):br D S.cr a=(br D S a).map (mapS WS.cr):=by
 unfold br
 show (if _ then _ else if S.st (a/2)=2 then _ else if S.st (a/2)=3 then _ else if S.st (a/2)=5 then _ else if S.st (a/2)=a % 2 then _ else if S.st (a/2)=1-a % 2 then _ else _)=_
 split
 ·rfl
 split
 ·rfl
 split
 ·rfl
 split
 ·rfl
 split
 ·rfl
 split
 ·rfl
 ·rfl
theorem W_cr {D:Sh} {stop:Nat->Bool} {k:WS->Nat->Int} (S:WS) (a:Nat):W D stop S.cr a k=W D stop S a fun S b=>k S.cr b:=
 ywh WS.cr (fun S a _=>rfl) (fun S a _ _=>y3q D S a) S a
def eqE (a:Nat):Nat->Bool:=fun x=>x==a
def eqX (a x:Nat):Nat->Bool:=fun y=>y==a||decide (y/2=x)
theorem ycx {a b:Nat} (h:b≠a):eqE a b=false:=by unfold eqE;rw [beq_eq_false_iff_ne];exact h
theorem ya3 (a:Nat):eqE a a=true:=by simp [eqE]
def wk1 (D:Sh) (S:WS) (a:Nat) (k:WS->Int):Int:=sumB (br D S a) fun S' b=>W D (eqE a) S' b fun S _=>k S
theorem ym3 {D:Sh} {k:WS->Int} (u v:Int) (S:WS) (a:Nat):wk1 D (S.sc u v) a k=wk1 D S a fun S=>k (S.sc u v):=by
 unfold wk1
 rw [y3p,yiu]
 exact ybm fun x _=>W_sc _ _ _ _
theorem yyp {D:Sh} {k:WS->Int} (S:WS) (a:Nat):wk1 D S.cr a k=wk1 D S a fun S=>k S.cr:=by
 unfold wk1
 rw [y3q,yiu]
 exact ybm fun x _=>W_cr _ _
theorem y53 {D:Sh} {k k':WS->Int} {S:WS} {a:Nat}:wk1 D S a (fun S=>k S+k' S)=wk1 D S a k+wk1 D S a k':=by
 unfold wk1
 rw [←yit]
 exact ybm fun x _=>ywg (k:=fun S _=>k S) (k':=fun S _=>k' S)
theorem ynz {D:Sh} {x:Nat} {f:WS->WS} (h:Loc x f) {k:WS->Int} (S:WS) {a:Nat} (ha:a/2≠x):
  wk1 D (f S) a k=sumB (br D S a) fun S' b=>W D (eqX a x) S' b fun S'' b'=>W D (eqE a) (f S'') b' fun S _=>k S:=by
 unfold wk1
 rw [h.br D S ha]
 rw [yiu]
 refine ybm fun y _=>?_
 show W D (eqE a) (f y.2.1) y.2.2 _=_
 rw [yq3 (s1:=eqX a x) (fun b h=>by unfold eqE at h;simp [eqX,h])]
 exact h.W (fun b h=>by simp [eqX,h]) _ _
def run (X:Int->Int->Nat->Int) (D:Sh):List Nat->WS->Int
 |[],S=>X S.i S.j S.k
 |a::r,S=>if S.vis a=true then run X D r S else wk1 D S.cr a (run X D r)
def pq (D:Sh) (x:Nat):Nat:=if D.sg x=1 then 1 else 0
def nq (D:Sh) (x:Nat):Nat:=if D.sg x=1 then 0 else 1
theorem yq4 {D:Sh} {x:Nat} (hx:x<D.n) (hs:D.sg x=1\/D.sg x= -1) {S:WS} {b:Nat} (hb:b/2=x) {F:WS->Nat->Int}:
  sumB (br D ((S.sx x (pq D x)).sc (-1) 0) b) F=sumB (br D ((S.sx x (nq D x)).sc 1 0) b) F+sumB (br D ((S.sx x 5).sc 0 1) b) F:=by
 have hlt: ¬2*D.n<=b:=by omega
 have e5:br D ((S.sx x 5).sc 0 1) b=[(1,(S.mk' b 2).sc 0 1,D.nx (co b))]:=by
  unfold br
  rw [if_neg hlt]
  have:((S.sx x 5).sc 0 1).st (b/2)=5:=by rw [hb];exact yac _ _ _
  rw [this,if_neg (by decide),if_neg (by decide),if_pos rfl,WS.sc_mk,WS.sx_mk _ _ _ hb]
 have eo: ∀q u v,q=b % 2->br D ((S.sx x q).sc u v) b=[(1,(S.mk' b 3).sc u v,D.nx b)]:=fun q u v hq=>by
  unfold br
  rw [if_neg hlt]
  have:((S.sx x q).sc u v).st (b/2)=q:=by rw [hb];exact yac _ _ _
  rw [this,if_neg (by omega),if_neg (by omega),if_neg (by omega),if_pos hq,WS.sc_mk,WS.sx_mk _ _ _ hb]
 have eu: ∀q u v,q=1-b % 2->br D ((S.sx x q).sc u v) b=[(1,(S.mk' b 3).sc (u+2*sgn D q x) v,D.nx b),(sgn D q x,(S.mk' b 2).sc (u+sgn D q x) (v+1),D.nx (co b))]:=fun q u v hq=>by
  unfold br
  rw [if_neg hlt]
  have:((S.sx x q).sc u v).st (b/2)=q:=by rw [hb];exact yac _ _ _
  rw [this,if_neg (by omega),if_neg (by omega),if_neg (by omega),if_neg (by omega),if_pos hq,WS.sc_mk,WS.sx_mk _ _ _ hb,WS.sc_mk,WS.sx_mk _ _ _ hb,WS.sc_sc,WS.sc_sc,Int.add_zero,hb]
 rw [e5]
 have hm:b % 2=0\/b % 2=1:=by omega
 unfold pq nq
 rcases hs with hs|hs<;>rcases hm with hm|hm
 ·rw [if_pos hs,if_pos hs,eu 1 _ _ (by omega),eo 0 _ _ (by omega)]
  simp [sumB,sgn,hs]
 ·rw [if_pos hs,if_pos hs,eo 1 _ _ (by omega),eu 0 _ _ (by omega)]
  simp [sumB,sgn,hs];omega
 ·rw [if_neg (by omega),if_neg (by omega),eo 0 _ _ (by omega),eu 1 _ _ (by omega)]
  simp [sumB,sgn,hs];omega
 ·rw [if_neg (by omega),if_neg (by omega),eu 0 _ _ (by omega),eo 1 _ _ (by omega)]
  simp [sumB,sgn,hs]
theorem yiv {X:Int->Int->Nat->Int} {D:Sh} {x:Nat} (hx:x<D.n) (hs:D.sg x=1\/D.sg x= -1): ∀(B:List Nat) (S:WS),S.vis (2*x)=false->S.vis (2*x+1)=false->2*x∈B->
  run X D B ((S.sx x (pq D x)).sc (-1) 0)=run X D B ((S.sx x (nq D x)).sc 1 0)+run X D B ((S.sx x 5).sc 0 1)
 |[],S,_,_,hB=>by cases hB
 |a::r,S,v0,v1,hB=>by
  simp only [run]
  show (if S.vis a=true then _ else _)=(if S.vis a=true then _ else _)+(if S.vis a=true then _ else _)
  cases hv:S.vis a with
  |true=>
   simp only [if_true]
   refine yiv hx hs r S v0 v1 ?_
   rcases List.mem_cons.1 hB with h|h
   ·rw [←h,v0] at hv;cases hv
   ·exact h
  |false=>
   simp only [Bool.false_eq_true,if_false]
   by_cases ha:a/2=x
   ·unfold wk1
    rw [WS.sc_cr,WS.sc_cr,WS.sc_cr,WS.sx_cr,WS.sx_cr,WS.sx_cr]
    exact yq4 hx hs ha
   ·have hne:2*x≠a:=fun e=>ha (by omega)
    have hr:2*x∈r:=(List.mem_cons.1 hB).resolve_left hne
    rw [WS.sc_cr,WS.sc_cr,WS.sc_cr,WS.sx_cr,WS.sx_cr,WS.sx_cr]
    rw [ynz ((Loc.scL x (-1) 0).comp (Loc.sxL x (pq D x))) S.cr ha,ynz ((Loc.scL x 1 0).comp (Loc.sxL x (nq D x))) S.cr ha,ynz ((Loc.scL x 0 1).comp (Loc.sxL x 5)) S.cr ha,←yit]
    refine ybm fun y hy=>?_
    rw [←ywg]
    refine yhv (fun S _=>S.vis (2*x)=false/\S.vis (2*x+1)=false) ?_ ?_ ?_
    ·intro S b ⟨h0,h1⟩ hst _ z hz
     have hb:b/2≠x:=fun e=>by simp [eqX,e] at hst
     rw [(ydj hz).2]
     exact ⟨by rw [yae _ _ (by omega)];exact h0,by rw [yae _ _ (by omega)];exact h1⟩
    ·intro S b ⟨h0,h1⟩ hst
     by_cases hb:b/2=x
     ·have hba:eqE a b=false:=by
       show (b==a)=false
       rw [beq_eq_false_iff_ne];exact fun e=>ha (e▸hb)
      have hvb:S.vis b=false:=by
       have:b=2*x\/b=2*x+1:=by omega
       rcases this with h|h<;>rw [h]<;>assumption
      rw [W_go hba (by exact hvb),W_go hba (by exact hvb),W_go hba (by exact hvb)]
      exact yq4 hx hs hb
     ·have hba:eqE a b=true:=by simpa [eqX,eqE,hb] using hst
      rw [yaz hba,yaz hba,yaz hba]
      exact yiv hx hs r S h0 h1 hr
    ·have:=(ydj hy).2
     rw [this]
     exact ⟨by rw [yae _ _ hne];exact v0,by rw [yae _ _ (by omega)];exact v1⟩
end Hs
end Go.Proofs.YtjpbeacamoijhaaDoor
