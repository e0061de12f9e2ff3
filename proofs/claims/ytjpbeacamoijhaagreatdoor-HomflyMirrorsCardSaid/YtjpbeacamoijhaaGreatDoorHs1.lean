/- Plain: a walker along a diagram, that resolves the crossings as it meets them; the skein relation. -/
namespace Go.Proofs.YtjpbeacamoijhaaGreatDoor
set_option linter.unusedSimpArgs false
set_option linter.unusedVariables false
namespace Hs
def aM {α:Type} (f:Nat->α) (a:Nat) (v:α):Nat->α:=fun x=>if x=a then v else f x
theorem bG {α:Type} (f:Nat->α) (a:Nat) (v:α):aM f a v a=v:=if_pos rfl
theorem bt {α:Type} (f:Nat->α) {a x:Nat} (v:α) (h:x≠a):aM f a v x=f x:=if_neg h
theorem QQ {α:Type} (f:Nat->α) (a:Nat) (v w:α):aM (aM f a v) a w=aM f a w:=by
 funext x;unfold aM;split<;>rfl
theorem I2 {α:Type} (f:Nat->α) {a b:Nat} (v w:α) (h:a≠b):aM (aM f a v) b w=aM (aM f b w) a v:=by
 funext x;unfold aM;by_cases h1:x=b
 ·subst h1;rw [if_pos rfl,if_neg (Ne.symm h),if_pos rfl]
 ·rw [if_neg h1];by_cases h2:x=a
  ·rw [if_pos h2,if_pos h2]
  ·rw [if_neg h2,if_neg h2,if_neg h1]
structure WS where
 st:Nat->Nat
 ae:Nat->Bool
 i:Int
 j:Int
 k:Nat
def WS.sc (S:WS) (a b:Int):WS:={S with i:=S.i+a,j:=S.j+b}
def WS.mk' (S:WS) (a v:Nat):WS:={S with st:=aM S.st (a/2) v,ae:=aM S.ae a true}
def WS.sx (S:WS) (x v:Nat):WS:={S with st:=aM S.st x v}
def WS.cr (S:WS):WS:={S with k:=S.k+1}
theorem WS.bQ (S:WS) (a b c d:Int):(S.sc a b).sc c d=S.sc (a+c) (b+d):=by
 unfold WS.sc;simp only [WS.mk.injEq,true_and,and_true];exact ⟨by omega,by omega⟩
theorem WS.bK (S:WS):S.sc 0 0=S:=by unfold WS.sc;simp
theorem WS.dG (S:WS) (a b:Int) (e v:Nat):(S.sc a b).mk' e v=(S.mk' e v).sc a b:=rfl
theorem WS.dV (S:WS) (a b:Int):(S.sc a b).cr=S.cr.sc a b:=rfl
theorem WS.tT (S:WS) (a b:Int) (x v:Nat):(S.sc a b).sx x v=(S.sx x v).sc a b:=rfl
theorem WS.pS (S:WS) (x v:Nat):(S.sx x v).cr=S.cr.sx x v:=rfl
theorem WS.tR (S:WS) {e x:Nat} (v q:Nat) (h:e/2=x):(S.sx x q).mk' e v=S.mk' e v:=by
 unfold WS.sx WS.mk';subst h;simp only [QQ]
def co (a:Nat):Nat:=if a % 2=0 then a+1 else a-1
theorem bV (a:Nat):co a/2=a/2:=by unfold co;split<;>omega
theorem di (a:Nat):co (co a)=a:=by unfold co;split<;>split<;>omega
theorem qU (a:Nat):co a≠a:=by unfold co;split<;>omega
theorem vt (a:Nat):co a % 2=1-a % 2:=by unfold co;split<;>omega
theorem ee {a n:Nat} (h:a<2*n):co a<2*n:=by unfold co;split<;>omega
theorem jV {a b:Nat} (h:a/2=b/2):a=b\/a=co b:=by unfold co;split<;>omega
structure Sh where
 n:Nat
 nx:Nat->Nat
 sg:Nat->Int
def dO (D:Sh) (q c:Nat):Int:=if q=1 then D.sg c else-D.sg c
def br (D:Sh) (S:WS) (a:Nat):List (Int×WS×Nat):=
 if 2*D.n<=a then []
 else if S.st (a/2)=2 then [(1,S.mk' a 4,D.nx (co a))]
 else if S.st (a/2)=3 then [(1,S.mk' a 4,D.nx a)]
 else if S.st (a/2)=5 then [(1,S.mk' a 2,D.nx (co a))]
 else if S.st (a/2)=a % 2 then [(1,S.mk' a 3,D.nx a)]
 else if S.st (a/2)=1-a % 2 then [(1,(S.mk' a 3).sc (2*dO D (S.st (a/2)) (a/2)) 0,D.nx a),(dO D (S.st (a/2)) (a/2),(S.mk' a 2).sc (dO D (S.st (a/2)) (a/2)) 1,D.nx (co a))]
 else []
def sumB:List (Int×WS×Nat)->(WS->Nat->Int)->Int
 |[],_=>0
 |x::l,F=>x.1*F x.2.1 x.2.2+sumB l F
theorem qZ {F G:WS->Nat->Int}: ∀{l:List (Int×WS×Nat)},(∀x∈l,F x.2.1 x.2.2=G x.2.1 x.2.2)->sumB l F=sumB l G
 |[],_=>rfl
 |x::l,h=>by
  simp only [sumB];rw [h x (.head _),qZ fun y hy=>h y (.tail _ hy)]
theorem I1 {F G:WS->Nat->Int}: ∀{l:List (Int×WS×Nat)},sumB l (fun S a=>F S a+G S a)=sumB l F+sumB l G
 |[]=>rfl
 |x::l=>by
  simp only [sumB];rw [I1 (l:=l),Int.mul_add];omega
theorem LP {F:WS->Nat->Int} (c:Int): ∀{l:List (Int×WS×Nat)},sumB l (fun S a=>c*F S a)=c*sumB l F
 |[]=>by simp [sumB]
 |x::l=>by
  simp only [sumB];rw [LP c (l:=l),Int.mul_add,Int.mul_left_comm]
def jz (f:WS->WS) (x:Int×WS×Nat):Int×WS×Nat:=(x.1,f x.2.1,x.2.2)
theorem IY {F:WS->Nat->Int} (f:WS->WS): ∀{l:List (Int×WS×Nat)},sumB (l.map (jz f)) F=sumB l (fun S a=>F (f S) a)
 |[]=>rfl
 |x::l=>by
  simp only [List.map,sumB,jz];rw [IY f (l:=l)]
def unv (v:Nat->Bool):Nat->Nat
 |0=>0
 |b+1=>unv v b+if v b then 0 else 1
theorem Rs (v:Nat->Bool) (a:Nat) (h:v a=false): ∀b,unv (aM v a true) b+(if a<b then 1 else 0)=unv v b
 |0=>rfl
 |b+1=>by
  simp only [unv]
  have:=Rs v a h b
  by_cases hb:b=a
  ·subst hb;rw [bG,h];simp at this⊢;omega
  ·rw [bt _ _ hb];by_cases h1:a<b
   ·rw [if_pos h1] at this;rw [if_pos (show a<b+1 by omega)];omega
   ·rw [if_neg h1] at this;rw [if_neg (show¬a<b+1 by omega)];omega
def fu (D:Sh) (S:WS):Nat:=unv S.ae (2*D.n)
theorem vr {D:Sh} {S:WS} {a:Nat} {x:Int×WS×Nat} (h:x∈br D S a):a<2*D.n/\x.2.1.ae=aM S.ae a true:=by
 unfold br at h
 split at h
 ·cases h
 ·refine ⟨by omega,?_⟩
  split at h
  ·rw [List.mem_singleton] at h;subst h;rfl
  split at h
  ·rw [List.mem_singleton] at h;subst h;rfl
  split at h
  ·rw [List.mem_singleton] at h;subst h;rfl
  split at h
  ·rw [List.mem_singleton] at h;subst h;rfl
  split at h
  ·rcases List.mem_cons.1 h with h|h
   ·subst h;rfl
   ·rw [List.mem_singleton] at h;subst h;rfl
  ·cases h
theorem yK {D:Sh} {S:WS} {a:Nat} {x:Int×WS×Nat} (h:x∈br D S a) (hv:S.ae a=false):fu D x.2.1+1=fu D S:=by
 obtain ⟨h1,h2⟩:=vr h
 have:=Rs S.ae a hv (2*D.n)
 rw [if_pos h1] at this;unfold fu;rw [h2];exact this
def Wf (D:Sh) (stop:Nat->Bool):Nat->WS->Nat->(WS->Nat->Int)->Int
 |0,_,_,_=>0
 |f+1,S,a,k=>if stop a=true then k S a else if S.ae a=true then 0 else sumB (br D S a) fun S' b=>Wf D stop f S' b k
def W (D:Sh) (stop:Nat->Bool) (S:WS) (a:Nat) (k:WS->Nat->Int):Int:=Wf D stop (fu D S+1) S a k
theorem zL (D:Sh) (stop:Nat->Bool) (S:WS) (a:Nat) (k:WS->Nat->Int):W D stop S a k=if stop a=true then k S a else if S.ae a=true then 0 else sumB (br D S a) fun S' b=>W D stop S' b k:=by
 show (if stop a=true then k S a else if S.ae a=true then 0 else sumB (br D S a) fun S' b=>Wf D stop (fu D S) S' b k)=_
 split
 ·rfl
 split
 ·rfl
 ·rename_i h
  refine qZ fun x hx=>?_;show Wf D stop (fu D S) x.2.1 x.2.2 k=Wf D stop (fu D x.2.1+1) x.2.1 x.2.2 k;rw [yK hx (by simpa using h)]
theorem iG {D:Sh} {stop:Nat->Bool} {S:WS} {a:Nat} {k:WS->Nat->Int} (h:stop a=true):W D stop S a k=k S a:=by rw [zL,if_pos h]
theorem vh {D:Sh} {stop:Nat->Bool} {S:WS} {a:Nat} {k:WS->Nat->Int} (h:stop a=false) (hv:S.ae a=true):W D stop S a k=0:=by
 rw [zL,if_neg (by simp [h]),if_pos hv]
theorem gQ {D:Sh} {stop:Nat->Bool} {S:WS} {a:Nat} {k:WS->Nat->Int} (h:stop a=false) (hv:S.ae a=false):W D stop S a k=sumB (br D S a) fun S' b=>W D stop S' b k:=by
 rw [zL,if_neg (by simp [h]),if_neg (by simp [hv])]
inductive BR (R:WS->Nat->WS->Nat->Prop):List (Int×WS×Nat)->List (Int×WS×Nat)->Prop
 |nil:BR R [] []
 |cons {c S a S' a' l l'}:R S a S' a'->BR R l l'->BR R ((c,S,a)::l) ((c,S',a')::l')
theorem BR.sum {R:WS->Nat->WS->Nat->Prop} {F G:WS->Nat->Int} {l l':List (Int×WS×Nat)} (h:BR R l l') (hF: ∀x∈l,∀S' a',R x.2.1 x.2.2 S' a'->F x.2.1 x.2.2=G S' a'):sumB l F=sumB l' G:=by
 induction h with
 |nil=>rfl
 |cons hr _ ih=>
  simp only [sumB];rw [ih fun y hy=>hF y (.tail _ hy),hF _ (.head _) _ _ hr]
theorem BR.wb {R:WS->Nat->WS->Nat->Prop}: ∀{l:List (Int×WS×Nat)},(∀x∈l,R x.2.1 x.2.2 x.2.1 x.2.2)->BR R l l
 |[],_=> .nil
 |x::l,h=> .cons (h x (.head _)) (BR.wb fun y hy=>h y (.tail _ hy))
theorem xp {D D':Sh} {stop v8:Nat->Bool} {k k':WS->Nat->Int} (R:WS->Nat->WS->Nat->Prop)
  (h: ∀S a S' a',R S a S' a'->stop a=v8 a'/\(stop a=true->k S a=k' S' a')/\(stop a=false->S.ae a=S'.ae a'/\(S.ae a=false->BR R (br D S a) (br D' S' a')))):
  ∀S a S' a',R S a S' a'->W D stop S a k=W D' v8 S' a' k':=by
 have key: ∀n S a S' a',fu D S<=n->R S a S' a'->W D stop S a k=W D' v8 S' a' k':=fun n=>by
  induction n with
  |zero=>
   intro S a S' a' hn hR;obtain ⟨h1,h2,h3⟩:=h S a S' a' hR;cases hs:stop a with
   |true=>rw [iG hs,iG (h1▸hs),h2 hs]
   |false=>
    obtain ⟨h4,h5⟩:=h3 hs;cases hv:S.ae a with
    |true=>rw [vh hs hv,vh (h1▸hs) (h4▸hv)]
    |false=>
     rw [gQ hs hv,gQ (h1▸hs) (h4▸hv)];refine (h5 hv).sum fun x hx=>?_
     have:=yK hx hv
     omega
  |succ n ih=>
   intro S a S' a' hn hR;obtain ⟨h1,h2,h3⟩:=h S a S' a' hR;cases hs:stop a with
   |true=>rw [iG hs,iG (h1▸hs),h2 hs]
   |false=>
    obtain ⟨h4,h5⟩:=h3 hs;cases hv:S.ae a with
    |true=>rw [vh hs hv,vh (h1▸hs) (h4▸hv)]
    |false=>
     rw [gQ hs hv,gQ (h1▸hs) (h4▸hv)];refine (h5 hv).sum fun x hx dm a'' zy=>?_
     have:=yK hx hv
     exact ih _ _ _ _ (by omega) zy
 exact fun S a S' a'=>key _ S a S' a' (Nat.le_refl _)
theorem Bb {D:Sh} {stop:Nat->Bool} {k k':WS->Nat->Int} (I:WS->Nat->Prop) (hs: ∀S a,I S a->stop a=false->S.ae a=false-> ∀x∈br D S a,I x.2.1 x.2.2) (hk: ∀S a,I S a->stop a=true->k S a=k' S a) {S:WS} {a:Nat} (h0:I S a):W D stop S a k=W D stop S a k':=
 xp (fun S a S' a'=>S=S'/\a=a'/\I S a) (fun S a S' a' ⟨e1,e2,hI⟩=>by
  subst e1 e2;exact ⟨rfl,fun h=>hk S a hI h,fun h=>⟨rfl,fun hv=>BR.wb fun x hx=>⟨rfl,rfl,hs S a hI h hv x hx⟩⟩⟩) S a S a ⟨rfl,rfl,h0⟩
theorem Ky {D:Sh} {stop:Nat->Bool} {k k':WS->Nat->Int}: ∀{S:WS} {a:Nat},W D stop S a (fun S b=>k S b+k' S b)=W D stop S a k+W D stop S a k':=by
 have key: ∀f S a,Wf D stop f S a (fun S b=>k S b+k' S b)=Wf D stop f S a k+Wf D stop f S a k':=fun f=>by
  induction f with
  |zero=>intros;rfl
  |succ f ih=>
   intro S a;simp only [Wf]
   split
   ·rfl
   split
   ·rfl
   ·rw [←I1];exact qZ fun x _=>ih _ _
 exact fun {S a}=>key _ S a
theorem Uu {D:Sh} {stop:Nat->Bool} {k:WS->Nat->Int} (c:Int): ∀{S:WS} {a:Nat},W D stop S a (fun S b=>c*k S b)=c*W D stop S a k:=by
 have key: ∀f S a,Wf D stop f S a (fun S b=>c*k S b)=c*Wf D stop f S a k:=fun f=>by
  induction f with
  |zero=>intros;simp [Wf]
  |succ f ih=>
   intro S a;simp only [Wf]
   split
   ·rfl
   split
   ·simp
   ·rw [←LP];exact qZ fun x _=>ih _ _
 exact fun {S a}=>key _ S a
theorem KY {D:Sh} {s1 s2:Nat->Bool} {k:WS->Nat->Int} (h: ∀a,s2 a=true->s1 a=true): ∀(S:WS) (a:Nat),W D s2 S a k=W D s1 S a fun S' b=>W D s2 S' b k:=by
 have key: ∀n S a,fu D S<=n->W D s2 S a k=W D s1 S a fun S' b=>W D s2 S' b k:=fun n=>by
  induction n with
  |zero=>
   intro S a hn;cases h1:s1 a with
   |true=>rw [iG h1]
   |false=>
    have h2:s2 a=false:=by
     cases e:s2 a with
     |false=>rfl
     |true=>rw [h a e] at h1;cases h1
    cases hv:S.ae a with
    |true=>rw [vh h1 hv,vh h2 hv]
    |false=>
     rw [gQ h1 hv,gQ h2 hv];refine qZ fun x hx=>?_
     have:=yK hx hv
     omega
  |succ n ih=>
   intro S a hn;cases h1:s1 a with
   |true=>rw [iG h1]
   |false=>
    have h2:s2 a=false:=by
     cases e:s2 a with
     |false=>rfl
     |true=>rw [h a e] at h1;cases h1
    cases hv:S.ae a with
    |true=>rw [vh h1 hv,vh h2 hv]
    |false=>
     rw [gQ h1 hv,gQ h2 hv];refine qZ fun x hx=>?_
     have:=yK hx hv
     exact ih _ _ (by omega)
 exact fun S a=>key _ S a (Nat.le_refl _)
theorem Kx {D:Sh} {stop:Nat->Bool} {k:WS->Nat->Int} (f:WS->WS) (hv: ∀S a,stop a=false->(f S).ae a=S.ae a) (hb: ∀S a,stop a=false->S.ae a=false->br D (f S) a=(br D S a).map (jz f)) (S:WS) (a:Nat):W D stop (f S) a k=W D stop S a fun S b=>k (f S) b:=
 xp (fun S a S' a'=>S=f S'/\a=a') (fun S a S' a' ⟨e1,e2⟩=>by
  subst e1 e2;refine ⟨rfl,fun _=>rfl,fun h=>⟨hv _ _ h,fun h2=>?_⟩⟩;rw [hb _ _ h (by rw [←hv _ _ h];exact h2)];generalize br D S' a=l
  induction l with
  |nil=>exact .nil
  |cons x l ih=>exact .cons ⟨rfl,rfl⟩ ih) _ _ _ _ ⟨rfl,rfl⟩
structure Loc (x:Nat) (f:WS->WS):Prop where
 st: ∀S c,c≠x->(f S).st c=S.st c
 ae: ∀S a,a/2≠x->(f S).ae a=S.ae a
 sR: ∀S a v,a/2≠x->f (S.mk' a v)=(f S).mk' a v
 sc: ∀S u v,f (S.sc u v)=(f S).sc u v
theorem Loc.br {x:Nat} {f:WS->WS} (h:Loc x f) (D:Sh) (S:WS) {a:Nat} (ha:a/2≠x):br D (f S) a=(br D S a).map (jz f):=by
 unfold Hs.br;rw [h.st S _ ha]
 split
 ·rfl
 split
 ·simp only [List.map,jz,h.sR _ _ _ ha]
 split
 ·simp only [List.map,jz,h.sR _ _ _ ha]
 split
 ·simp only [List.map,jz,h.sR _ _ _ ha]
 split
 ·simp only [List.map,jz,h.sR _ _ _ ha]
 split
 ·simp only [List.map,jz,h.sc,h.sR _ _ _ ha]
 ·rfl
theorem Loc.comp {x:Nat} {f g:WS->WS} (h:Loc x f) (k:Loc x g):Loc x (fun S=>f (g S)):=
 ⟨fun S c hc=>by rw [h.st _ _ hc,k.st _ _ hc],fun S a ha=>by rw [h.ae _ _ ha,k.ae _ _ ha],fun S a v ha=>by rw [k.sR _ _ _ ha,h.sR _ _ _ ha],fun S u v=>by rw [k.sc,h.sc]⟩
theorem Loc.MW (x q:Nat):Loc x (fun S=>S.sx x q):=
 ⟨fun S c hc=>bt _ _ hc,fun S a _=>rfl,fun S a v ha=>by unfold WS.sx WS.mk';simp only [I2 _ _ _ ha],fun S u v=>rfl⟩
theorem Loc.pn {x b:Nat} (q:Nat) (hb:b/2=x):Loc x (fun S=>S.mk' b q):=
 ⟨fun S c hc=>bt _ _ (by rw [hb];exact hc),fun S a ha=>bt _ _ (fun e=>ha (e▸hb)),fun S a v ha=>by
  unfold WS.mk';simp only [I2 _ _ _ (show a/2≠b/2 by rw [hb];exact ha),I2 _ true true (show a≠b from fun e=>ha (e▸hb))],fun S u v=>rfl⟩
theorem Loc.re (x:Nat) (u v:Int):Loc x (fun S=>S.sc u v):=
 ⟨fun S c hc=>rfl,fun S a _=>rfl,fun S a v ha=>rfl,fun S a b=>by
  show (S.sc a b).sc u v=(S.sc u v).sc a b;rw [WS.bQ,WS.bQ];congr 1<;>omega⟩
theorem Loc.W {x:Nat} {f:WS->WS} (h:Loc x f) {D:Sh} {stop:Nat->Bool} {k:WS->Nat->Int} (hs: ∀a,a/2=x->stop a=true) (S:WS) (a:Nat):W D stop (f S) a k=W D stop S a fun S b=>k (f S) b:=by
 have ax: ∀a,stop a=false->a/2≠x:=fun a h e=>by rw [hs a e] at h;cases h
 exact Kx f (fun S a h'=>h.ae S a (ax a h')) (fun S a h' _=>h.br D S (ax a h')) S a
theorem Ut (D:Sh) (S:WS) (a:Nat) (u v:Int):br D (S.sc u v) a=(br D S a).map (jz fun S=>S.sc u v):=
 (Loc.re (a/2+1) u v).br D S (by omega)
theorem Po {D:Sh} {stop:Nat->Bool} {k:WS->Nat->Int} (u v:Int) (S:WS) (a:Nat):W D stop (S.sc u v) a k=W D stop S a fun S b=>k (S.sc u v) b:=
 Kx (fun S=>S.sc u v) (fun S a _=>rfl) (fun S a _ _=>Ut D S a u v) S a
theorem Us (D:Sh) (S:WS) (a:Nat):br D S.cr a=(br D S a).map (jz WS.cr):=by
 unfold br;show (if _ then _ else if S.st (a/2)=2 then _ else if S.st (a/2)=3 then _ else if S.st (a/2)=5 then _ else if S.st (a/2)=a % 2 then _ else if S.st (a/2)=1-a % 2 then _ else _)=_
 split
 ·rfl
 split
 ·rfl
 split
 ·rfl
 split
 ·rfl
 split
 ·rfl
 split
 ·rfl
 ·rfl
theorem Pp {D:Sh} {stop:Nat->Bool} {k:WS->Nat->Int} (S:WS) (a:Nat):W D stop S.cr a k=W D stop S a fun S b=>k S.cr b:=
 Kx WS.cr (fun S a _=>rfl) (fun S a _ _=>Us D S a) S a
def dT (a:Nat):Nat->Bool:=fun x=>x==a
def yE (a x:Nat):Nat->Bool:=fun y=>y==a||decide (y/2=x)
theorem tM {a b:Nat} (h:b≠a):dT a b=false:=by unfold dT;rw [beq_eq_false_iff_ne];exact h
theorem js (a:Nat):dT a a=true:=by simp [dT]
def bA (D:Sh) (S:WS) (a:Nat) (k:WS->Int):Int:=sumB (br D S a) fun S' b=>W D (dT a) S' b fun S _=>k S
theorem H8 {D:Sh} {k:WS->Int} (u v:Int) (S:WS) (a:Nat):bA D (S.sc u v) a k=bA D S a fun S=>k (S.sc u v):=by
 unfold bA;rw [Ut,IY];exact qZ fun x _=>Po _ _ _ _
theorem PH {D:Sh} {k:WS->Int} (S:WS) (a:Nat):bA D S.cr a k=bA D S a fun S=>k S.cr:=by
 unfold bA;rw [Us,IY];exact qZ fun x _=>Pp _ _
theorem Rr {D:Sh} {k k':WS->Int} {S:WS} {a:Nat}:bA D S a (fun S=>k S+k' S)=bA D S a k+bA D S a k':=by
 unfold bA;rw [←I1];exact qZ fun x _=>Ky (k:=fun S _=>k S) (k':=fun S _=>k' S)
theorem y7k {D:Sh} {k:WS->Int} (c:Int) {S:WS} {a:Nat}:bA D S a (fun S=>c*k S)=c*bA D S a k:=by
 unfold bA;rw [←LP];exact qZ fun x _=>Uu (k:=fun S _=>k S) c
theorem Ln {D:Sh} {x:Nat} {f:WS->WS} (h:Loc x f) {k:WS->Int} (S:WS) {a:Nat} (ha:a/2≠x):
  bA D (f S) a k=sumB (br D S a) fun S' b=>W D (yE a x) S' b fun dm b'=>W D (dT a) (f dm) b' fun S _=>k S:=by
 unfold bA;rw [h.br D S ha];rw [IY];refine qZ fun y _=>?_;show W D (dT a) (f y.2.1) y.2.2 _=_;rw [KY (s1:=yE a x) (fun b h=>by unfold dT at h;simp [yE,h])];exact h.W (fun b h=>by simp [yE,h]) _ _
def run (X:Int->Int->Nat->Int) (D:Sh):List Nat->WS->Int
 |[],S=>X S.i S.j S.k
 |a::r,S=>if S.ae a=true then run X D r S else bA D S.cr a (run X D r)
def pq (D:Sh) (x:Nat):Nat:=if D.sg x=1 then 1 else 0
def nq (D:Sh) (x:Nat):Nat:=if D.sg x=1 then 0 else 1
theorem R5 {D:Sh} {x:Nat} (hx:x<D.n) (hs:D.sg x=1\/D.sg x= -1) {S:WS} {b:Nat} (hb:b/2=x) {F:WS->Nat->Int}:
  sumB (br D ((S.sx x (pq D x)).sc (-1) 0) b) F=sumB (br D ((S.sx x (nq D x)).sc 1 0) b) F+sumB (br D ((S.sx x 5).sc 0 1) b) F:=by
 have ay: ¬2*D.n<=b:=by omega
 have e5:br D ((S.sx x 5).sc 0 1) b=[(1,(S.mk' b 2).sc 0 1,D.nx (co b))]:=by
  unfold br;rw [if_neg ay]
  have:((S.sx x 5).sc 0 1).st (b/2)=5:=by rw [hb];exact bG _ _ _
  rw [this,if_neg (by decide),if_neg (by decide),if_pos rfl,WS.dG,WS.tR _ _ _ hb]
 have eo: ∀q u v,q=b % 2->br D ((S.sx x q).sc u v) b=[(1,(S.mk' b 3).sc u v,D.nx b)]:=fun q u v hq=>by
  unfold br;rw [if_neg ay]
  have:((S.sx x q).sc u v).st (b/2)=q:=by rw [hb];exact bG _ _ _
  rw [this,if_neg (by omega),if_neg (by omega),if_neg (by omega),if_pos hq,WS.dG,WS.tR _ _ _ hb]
 have eu: ∀q u v,q=1-b % 2->br D ((S.sx x q).sc u v) b=[(1,(S.mk' b 3).sc (u+2*dO D q x) v,D.nx b),(dO D q x,(S.mk' b 2).sc (u+dO D q x) (v+1),D.nx (co b))]:=fun q u v hq=>by
  unfold br;rw [if_neg ay]
  have:((S.sx x q).sc u v).st (b/2)=q:=by rw [hb];exact bG _ _ _
  rw [this,if_neg (by omega),if_neg (by omega),if_neg (by omega),if_neg (by omega),if_pos hq,WS.dG,WS.tR _ _ _ hb,WS.dG,WS.tR _ _ _ hb,WS.bQ,WS.bQ,Int.add_zero,hb]
 rw [e5];have hm:b % 2=0\/b % 2=1:=by omega
 unfold pq nq;rcases hs with hs|hs<;>rcases hm with hm|hm
 ·rw [if_pos hs,if_pos hs,eu 1 _ _ (by omega),eo 0 _ _ (by omega)];simp [sumB,dO,hs]
 ·rw [if_pos hs,if_pos hs,eo 1 _ _ (by omega),eu 0 _ _ (by omega)];simp [sumB,dO,hs];omega
 ·rw [if_neg (by omega),if_neg (by omega),eo 0 _ _ (by omega),eu 1 _ _ (by omega)];simp [sumB,dO,hs];omega
 ·rw [if_neg (by omega),if_neg (by omega),eu 0 _ _ (by omega),eo 1 _ _ (by omega)];simp [sumB,dO,hs]
theorem A1 {X:Int->Int->Nat->Int} {D:Sh} {x:Nat} (hx:x<D.n) (hs:D.sg x=1\/D.sg x= -1): ∀(B:List Nat) (S:WS),S.ae (2*x)=false->S.ae (2*x+1)=false->2*x∈B->
  run X D B ((S.sx x (pq D x)).sc (-1) 0)=run X D B ((S.sx x (nq D x)).sc 1 0)+run X D B ((S.sx x 5).sc 0 1)
 |[],S,_,_,hB=>by cases hB
 |a::r,S,v0,v1,hB=>by
  simp only [run];show (if S.ae a=true then _ else _)=(if S.ae a=true then _ else _)+(if S.ae a=true then _ else _);cases hv:S.ae a with
  |true=>
   simp only [if_true];refine A1 hx hs r S v0 v1 ?_;rcases List.mem_cons.1 hB with h|h
   ·rw [←h,v0] at hv;cases hv
   ·exact h
  |false=>
   simp only [Bool.false_eq_true,if_false];by_cases ha:a/2=x
   ·unfold bA;rw [WS.dV,WS.dV,WS.dV,WS.pS,WS.pS,WS.pS];exact R5 hx hs ha
   ·have ax:2*x≠a:=fun e=>ha (by omega);have hr:2*x∈r:=(List.mem_cons.1 hB).resolve_left ax;rw [WS.dV,WS.dV,WS.dV,WS.pS,WS.pS,WS.pS];rw [Ln ((Loc.re x (-1) 0).comp (Loc.MW x (pq D x))) S.cr ha,Ln ((Loc.re x 1 0).comp (Loc.MW x (nq D x))) S.cr ha,Ln ((Loc.re x 0 1).comp (Loc.MW x 5)) S.cr ha,←I1];refine qZ fun y hy=>?_;rw [←Ky]
    refine Bb (fun S _=>S.ae (2*x)=false/\S.ae (2*x+1)=false) ?_ ?_ ?_
    ·intro S b ⟨h0,h1⟩ aR _ z hz;have hb:b/2≠x:=fun e=>by simp [yE,e] at aR
     rw [(vr hz).2];exact ⟨by rw [bt _ _ (by omega)];exact h0,by rw [bt _ _ (by omega)];exact h1⟩
    ·intro S b ⟨h0,h1⟩ aR;by_cases hb:b/2=x
     ·have rK:dT a b=false:=by
       show (b==a)=false;rw [beq_eq_false_iff_ne];exact fun e=>ha (e▸hb)
      have nC:S.ae b=false:=by
       have:b=2*x\/b=2*x+1:=by omega
       rcases this with h|h<;>rw [h]<;>assumption
      rw [gQ rK (by exact nC),gQ rK (by exact nC),gQ rK (by exact nC)];exact R5 hx hs hb
     ·have rK:dT a b=true:=by simpa [yE,dT,hb] using aR
      rw [iG rK,iG rK,iG rK];exact A1 hx hs r S h0 h1 hr
    ·have:=(vr hy).2
     rw [this];exact ⟨by rw [bt _ _ ax];exact v0,by rw [bt _ _ (by omega)];exact v1⟩
end Hs
end Go.Proofs.YtjpbeacamoijhaaGreatDoor
