/- Plain: a walker along a diagram, that resolves the crossings as it meets them; the skein relation. -/
import Derived.Test.YtjpbeacamoijhaaGreatDoorAl
namespace Go.Proofs.YtjpbeacamoijhaaGreatDoor
set_option linter.unusedSimpArgs false
set_option linter.unusedVariables false
namespace Hs
def aR {α:Type} (f:Nat->α) (a:Nat) (v:α):Nat->α:=fun x=>if x=a then v else f x
theorem bQ {α:Type} (f:Nat->α) (a:Nat) (v:α):aR f a v a=v:=zzJ rfl
theorem bG {α:Type} (f:Nat->α) {a x:Nat} (v:α) (h:x≠a):aR f a v x=f x:=zzI h
theorem Sq {α:Type} (f:Nat->α) (a:Nat) (v w:α):aR (aR f a v) a w=aR f a w:=by
 funext x;unfold aR;split<;>rfl
theorem JT {α:Type} (f:Nat->α) {a b:Nat} (v w:α) (h:a≠b):aR (aR f a v) b w=aR (aR f b w) a v:=by
 funext x;unfold aR;by_cases h1:x=b
 ·subst h1;rw [zzJ rfl,zzI (Ne.symm h),zzJ rfl]
 ·rw [zzI h1];by_cases h2:x=a
  ·rw [zzJ h2,zzJ h2]
  ·rw [zzI h2,zzI h2,zzI h1]
structure WS where
 st:Nat->Nat
 ae:Nat->Bool
 i:Int
 j:Int
 k:Nat
def WS.sc (S:WS) (a b:Int):WS:={S with i:=S.i+a,j:=S.j+b}
def WS.mk' (S:WS) (a v:Nat):WS:={S with st:=aR S.st (a/2) v,ae:=aR S.ae a true}
def WS.sx (S:WS) (x v:Nat):WS:={S with st:=aR S.st x v}
def WS.cr (S:WS):WS:={S with k:=S.k+1}
theorem WS.cd (S:WS) (a b c d:Int):(S.sc a b).sc c d=S.sc (a+c) (b+d):=by
 unfold WS.sc;simp only [WS.mk.injEq,true_and,and_true];exact ⟨by omega,by omega⟩
theorem WS.b8 (S:WS):S.sc 0 0=S:=by unfold WS.sc;simp
theorem WS.dT (S:WS) (a b:Int) (e v:Nat):(S.sc a b).mk' e v=(S.mk' e v).sc a b:=rfl
theorem WS.eX (S:WS) (a b:Int):(S.sc a b).cr=S.cr.sc a b:=rfl
theorem WS.w7 (S:WS) (a b:Int) (x v:Nat):(S.sc a b).sx x v=(S.sx x v).sc a b:=rfl
theorem WS.qt (S:WS) (x v:Nat):(S.sx x v).cr=S.cr.sx x v:=rfl
theorem WS.uy (S:WS) {e x:Nat} (v q:Nat) (h:e/2=x):(S.sx x q).mk' e v=S.mk' e v:=by
 unfold WS.sx WS.mk';subst h;simp only [Sq]
def co (a:Nat):Nat:=if a % 2=0 then a+1 else a-1
theorem dJ (a:Nat):co a/2=a/2:=by unfold co;split<;>omega
theorem eY (a:Nat):co (co a)=a:=by unfold co;split<;>split<;>omega
theorem rN (a:Nat):co a≠a:=by unfold co;split<;>omega
theorem BQ (a:Nat):co a % 2=1-a % 2:=by unfold co;split<;>omega
theorem fj {a n:Nat} (h:a<2*n):co a<2*n:=by unfold co;split<;>omega
theorem kj {a b:Nat} (h:a/2=b/2):a=b\/a=co b:=by unfold co;split<;>omega
structure Sh where
 n:Nat
 nx:Nat->Nat
 sg:Nat->Int
def dS (D:Sh) (q c:Nat):Int:=if q=1 then D.sg c else-D.sg c
def br (D:Sh) (S:WS) (a:Nat):List (Int×WS×Nat):=
 if 2*D.n<=a then []
 else if S.st (a/2)=2 then [(1,S.mk' a 4,D.nx (co a))]
 else if S.st (a/2)=3 then [(1,S.mk' a 4,D.nx a)]
 else if S.st (a/2)=5 then [(1,S.mk' a 2,D.nx (co a))]
 else if S.st (a/2)=a % 2 then [(1,S.mk' a 3,D.nx a)]
 else if S.st (a/2)=1-a % 2 then [(1,(S.mk' a 3).sc (2*dS D (S.st (a/2)) (a/2)) 0,D.nx a),(dS D (S.st (a/2)) (a/2),(S.mk' a 2).sc (dS D (S.st (a/2)) (a/2)) 1,D.nx (co a))]
 else []
def sumB:List (Int×WS×Nat)->(WS->Nat->Int)->Int
 |[],_=>0
 |x::l,F=>x.1*F x.2.1 x.2.2+sumB l F
theorem qm {F G:WS->Nat->Int}: ∀{l:List (Int×WS×Nat)},(∀x∈l,F x.2.1 x.2.2=G x.2.1 x.2.2)->sumB l F=sumB l G
 |[],_=>rfl
 |x::l,h=>by
  simp only [sumB];rw [h x (.head _),qm fun y hy=>h y (.tail _ hy)]
theorem JS {F G:WS->Nat->Int}: ∀{l:List (Int×WS×Nat)},sumB l (fun S a=>F S a+G S a)=sumB l F+sumB l G
 |[]=>rfl
 |x::l=>by
  simp only [sumB];rw [JS (l:=l),Int.mul_add];omega
theorem MU {F:WS->Nat->Int} (c:Int): ∀{l:List (Int×WS×Nat)},sumB l (fun S a=>c*F S a)=c*sumB l F
 |[]=>by simp [sumB]
 |x::l=>by
  simp only [sumB];rw [MU c (l:=l),Int.mul_add,Int.mul_left_comm]
def jC (f:WS->WS) (x:Int×WS×Nat):Int×WS×Nat:=(x.1,f x.2.1,x.2.2)
theorem Fq {F:WS->Nat->Int} (f:WS->WS): ∀{l:List (Int×WS×Nat)},sumB (l.map (jC f)) F=sumB l (fun S a=>F (f S) a)
 |[]=>rfl
 |x::l=>by
  simp only [List.map,sumB,jC];rw [Fq f (l:=l)]
def unv (v:Nat->Bool):Nat->Nat
 |0=>0
 |b+1=>unv v b+if v b then 0 else 1
theorem Sn (v:Nat->Bool) (a:Nat) (h:v a=false): ∀b,unv (aR v a true) b+(if a<b then 1 else 0)=unv v b
 |0=>rfl
 |b+1=>by
  simp only [unv]
  have:=Sn v a h b
  by_cases hb:b=a
  ·subst hb;rw [bQ,h];simp at this⊢;omega
  ·rw [bG _ _ hb];by_cases h1:a<b
   ·rw [zzJ h1] at this;rw [zzJ (show a<b+1 by omega)];omega
   ·rw [zzI h1] at this;rw [zzI (show¬a<b+1 by omega)];omega
def fu (D:Sh) (S:WS):Nat:=unv S.ae (2*D.n)
theorem s8 {D:Sh} {S:WS} {a:Nat} {x:Int×WS×Nat} (h:x∈br D S a):a<2*D.n/\x.2.1.ae=aR S.ae a true:=by
 unfold br at h
 split at h
 ·cases h
 ·refine ⟨by omega,?_⟩
  split at h
  ·rw [zzM] at h;subst h;rfl
  split at h
  ·rw [zzM] at h;subst h;rfl
  split at h
  ·rw [zzM] at h;subst h;rfl
  split at h
  ·rw [zzM] at h;subst h;rfl
  split at h
  ·rcases List.mem_cons.1 h with h|h
   ·subst h;rfl
   ·rw [zzM] at h;subst h;rfl
  ·cases h
theorem zD {D:Sh} {S:WS} {a:Nat} {x:Int×WS×Nat} (h:x∈br D S a) (hv:S.ae a=false):fu D x.2.1+1=fu D S:=by
 obtain ⟨h1,h2⟩:=s8 h
 have:=Sn S.ae a hv (2*D.n)
 rw [zzJ h1] at this;unfold fu;rw [h2];exact this
def Wf (D:Sh) (stop:Nat->Bool):Nat->WS->Nat->(WS->Nat->Int)->Int
 |0,_,_,_=>0
 |f+1,S,a,k=>if stop a=true then k S a else if S.ae a=true then 0 else sumB (br D S a) fun S' b=>Wf D stop f S' b k
def W (D:Sh) (stop:Nat->Bool) (S:WS) (a:Nat) (k:WS->Nat->Int):Int:=Wf D stop (fu D S+1) S a k
theorem AP (D:Sh) (stop:Nat->Bool) (S:WS) (a:Nat) (k:WS->Nat->Int):W D stop S a k=if stop a=true then k S a else if S.ae a=true then 0 else sumB (br D S a) fun S' b=>W D stop S' b k:=by
 show (if stop a=true then k S a else if S.ae a=true then 0 else sumB (br D S a) fun S' b=>Wf D stop (fu D S) S' b k)=_
 split
 ·rfl
 split
 ·rfl
 ·rename_i h
  refine qm fun x hx=>?_;show Wf D stop (fu D S) x.2.1 x.2.2 k=Wf D stop (fu D x.2.1+1) x.2.1 x.2.2 k;rw [zD hx (by simpa using h)]
theorem iY {D:Sh} {stop:Nat->Bool} {S:WS} {a:Nat} {k:WS->Nat->Int} (h:stop a=true):W D stop S a k=k S a:=by rw [AP,zzJ h]
theorem vS {D:Sh} {stop:Nat->Bool} {S:WS} {a:Nat} {k:WS->Nat->Int} (h:stop a=false) (hv:S.ae a=true):W D stop S a k=0:=by
 rw [AP,zzI (by simp [h]),zzJ hv]
theorem fA {D:Sh} {stop:Nat->Bool} {S:WS} {a:Nat} {k:WS->Nat->Int} (h:stop a=false) (hv:S.ae a=false):W D stop S a k=sumB (br D S a) fun S' b=>W D stop S' b k:=by
 rw [AP,zzI (by simp [h]),zzI (by simp [hv])]
inductive BR (R:WS->Nat->WS->Nat->Prop):List (Int×WS×Nat)->List (Int×WS×Nat)->Prop
 |nil:BR R [] []
 |cons {c S a S' a' l l'}:R S a S' a'->BR R l l'->BR R ((c,S,a)::l) ((c,S',a')::l')
theorem BR.sum {R:WS->Nat->WS->Nat->Prop} {F G:WS->Nat->Int} {l l':List (Int×WS×Nat)} (h:BR R l l') (hF: ∀x∈l,∀S' a',R x.2.1 x.2.2 S' a'->F x.2.1 x.2.2=G S' a'):sumB l F=sumB l' G:=by
 induction h with
 |nil=>rfl
 |cons hr _ ih=>
  simp only [sumB];rw [ih fun y hy=>hF y (.tail _ hy),hF _ (.head _) _ _ hr]
theorem BR.w8 {R:WS->Nat->WS->Nat->Prop}: ∀{l:List (Int×WS×Nat)},(∀x∈l,R x.2.1 x.2.2 x.2.1 x.2.2)->BR R l l
 |[],_=> .nil
 |x::l,h=> .cons (h x (.head _)) (BR.w8 fun y hy=>h y (.tail _ hy))
theorem rh {D D':Sh} {stop wW:Nat->Bool} {k k':WS->Nat->Int} (R:WS->Nat->WS->Nat->Prop)
  (h: ∀S a S' a',R S a S' a'->stop a=wW a'/\(stop a=true->k S a=k' S' a')/\(stop a=false->S.ae a=S'.ae a'/\(S.ae a=false->BR R (br D S a) (br D' S' a')))):
  ∀S a S' a',R S a S' a'->W D stop S a k=W D' wW S' a' k':=by
 have key: ∀n S a S' a',fu D S<=n->R S a S' a'->W D stop S a k=W D' wW S' a' k':=fun n=>by
  induction n with
  |zero=>
   intro S a S' a' hn hR;obtain ⟨h1,h2,h3⟩:=h S a S' a' hR;cases hs:stop a with
   |true=>rw [iY hs,iY (h1▸hs),h2 hs]
   |false=>
    obtain ⟨h4,h5⟩:=h3 hs;cases hv:S.ae a with
    |true=>rw [vS hs hv,vS (h1▸hs) (h4▸hv)]
    |false=>
     rw [fA hs hv,fA (h1▸hs) (h4▸hv)];refine (h5 hv).sum fun x hx=>?_
     have:=zD hx hv
     omega
  |succ n ih=>
   intro S a S' a' hn hR;obtain ⟨h1,h2,h3⟩:=h S a S' a' hR;cases hs:stop a with
   |true=>rw [iY hs,iY (h1▸hs),h2 hs]
   |false=>
    obtain ⟨h4,h5⟩:=h3 hs;cases hv:S.ae a with
    |true=>rw [vS hs hv,vS (h1▸hs) (h4▸hv)]
    |false=>
     rw [fA hs hv,fA (h1▸hs) (h4▸hv)];refine (h5 hv).sum fun x hx dB a'' Aw=>?_
     have:=zD hx hv
     exact ih _ _ _ _ (by omega) Aw
 exact fun S a S' a'=>key _ S a S' a' (zzA _)
theorem B9 {D:Sh} {stop:Nat->Bool} {k k':WS->Nat->Int} (I:WS->Nat->Prop) (hs: ∀S a,I S a->stop a=false->S.ae a=false-> ∀x∈br D S a,I x.2.1 x.2.2) (hk: ∀S a,I S a->stop a=true->k S a=k' S a) {S:WS} {a:Nat} (h0:I S a):W D stop S a k=W D stop S a k':=
 rh (fun S a S' a'=>S=S'/\a=a'/\I S a) (fun S a S' a' ⟨e1,e2,hI⟩=>by
  subst e1 e2;exact ⟨rfl,fun h=>hk S a hI h,fun h=>⟨rfl,fun hv=>BR.w8 fun x hx=>⟨rfl,rfl,hs S a hI h hv x hx⟩⟩⟩) S a S a ⟨rfl,rfl,h0⟩
theorem Ls {D:Sh} {stop:Nat->Bool} {k k':WS->Nat->Int}: ∀{S:WS} {a:Nat},W D stop S a (fun S b=>k S b+k' S b)=W D stop S a k+W D stop S a k':=by
 have key: ∀f S a,Wf D stop f S a (fun S b=>k S b+k' S b)=Wf D stop f S a k+Wf D stop f S a k':=fun f=>by
  induction f with
  |zero=>intros;rfl
  |succ f ih=>
   intro S a;simp only [Wf]
   split
   ·rfl
   split
   ·rfl
   ·rw [<-JS];exact qm fun x _=>ih _ _
 exact fun {S a}=>key _ S a
theorem VW {D:Sh} {stop:Nat->Bool} {k:WS->Nat->Int} (c:Int): ∀{S:WS} {a:Nat},W D stop S a (fun S b=>c*k S b)=c*W D stop S a k:=by
 have key: ∀f S a,Wf D stop f S a (fun S b=>c*k S b)=c*Wf D stop f S a k:=fun f=>by
  induction f with
  |zero=>intros;simp [Wf]
  |succ f ih=>
   intro S a;simp only [Wf]
   split
   ·rfl
   split
   ·simp
   ·rw [<-MU];exact qm fun x _=>ih _ _
 exact fun {S a}=>key _ S a
theorem I7 {D:Sh} {s1 s2:Nat->Bool} {k:WS->Nat->Int} (h: ∀a,s2 a=true->s1 a=true): ∀(S:WS) (a:Nat),W D s2 S a k=W D s1 S a fun S' b=>W D s2 S' b k:=by
 have key: ∀n S a,fu D S<=n->W D s2 S a k=W D s1 S a fun S' b=>W D s2 S' b k:=fun n=>by
  induction n with
  |zero=>
   intro S a hn;cases h1:s1 a with
   |true=>rw [iY h1]
   |false=>
    have h2:s2 a=false:=by
     cases e:s2 a with
     |false=>rfl
     |true=>rw [h a e] at h1;cases h1
    cases hv:S.ae a with
    |true=>rw [vS h1 hv,vS h2 hv]
    |false=>
     rw [fA h1 hv,fA h2 hv];refine qm fun x hx=>?_
     have:=zD hx hv
     omega
  |succ n ih=>
   intro S a hn;cases h1:s1 a with
   |true=>rw [iY h1]
   |false=>
    have h2:s2 a=false:=by
     cases e:s2 a with
     |false=>rfl
     |true=>rw [h a e] at h1;cases h1
    cases hv:S.ae a with
    |true=>rw [vS h1 hv,vS h2 hv]
    |false=>
     rw [fA h1 hv,fA h2 hv];refine qm fun x hx=>?_
     have:=zD hx hv
     exact ih _ _ (by omega)
 exact fun S a=>key _ S a (zzA _)
theorem IL {D:Sh} {stop:Nat->Bool} {k:WS->Nat->Int} (f:WS->WS) (hv: ∀S a,stop a=false->(f S).ae a=S.ae a) (hb: ∀S a,stop a=false->S.ae a=false->br D (f S) a=(br D S a).map (jC f)) (S:WS) (a:Nat):W D stop (f S) a k=W D stop S a fun S b=>k (f S) b:=
 rh (fun S a S' a'=>S=f S'/\a=a') (fun S a S' a' ⟨e1,e2⟩=>by
  subst e1 e2;refine ⟨rfl,fun _=>rfl,fun h=>⟨hv _ _ h,fun h2=>?_⟩⟩;rw [hb _ _ h (by rw [<-hv _ _ h];exact h2)];generalize br D S' a=l
  induction l with
  |nil=>exact .nil
  |cons x l ih=>exact .cons ⟨rfl,rfl⟩ ih) _ _ _ _ ⟨rfl,rfl⟩
structure Loc (x:Nat) (f:WS->WS):Prop where
 st: ∀S c,c≠x->(f S).st c=S.st c
 ae: ∀S a,a/2≠x->(f S).ae a=S.ae a
 p6: ∀S a v,a/2≠x->f (S.mk' a v)=(f S).mk' a v
 sc: ∀S u v,f (S.sc u v)=(f S).sc u v
theorem Loc.br {x:Nat} {f:WS->WS} (h:Loc x f) (D:Sh) (S:WS) {a:Nat} (ha:a/2≠x):br D (f S) a=(br D S a).map (jC f):=by
 unfold Hs.br;rw [h.st S _ ha]
 split
 ·rfl
 split
 ·simp only [List.map,jC,h.p6 _ _ _ ha]
 split
 ·simp only [List.map,jC,h.p6 _ _ _ ha]
 split
 ·simp only [List.map,jC,h.p6 _ _ _ ha]
 split
 ·simp only [List.map,jC,h.p6 _ _ _ ha]
 split
 ·simp only [List.map,jC,h.sc,h.p6 _ _ _ ha]
 ·rfl
theorem Loc.comp {x:Nat} {f g:WS->WS} (h:Loc x f) (k:Loc x g):Loc x (fun S=>f (g S)):=
 ⟨fun S c hc=>by rw [h.st _ _ hc,k.st _ _ hc],fun S a ha=>by rw [h.ae _ _ ha,k.ae _ _ ha],fun S a v ha=>by rw [k.p6 _ _ _ ha,h.p6 _ _ _ ha],fun S u v=>by rw [k.sc,h.sc]⟩
theorem Loc.OO (x q:Nat):Loc x (fun S=>S.sx x q):=
 ⟨fun S c hc=>bG _ _ hc,fun S a _=>rfl,fun S a v ha=>by unfold WS.sx WS.mk';simp only [JT _ _ _ ha],fun S u v=>rfl⟩
theorem Loc.pZ {x b:Nat} (q:Nat) (hb:b/2=x):Loc x (fun S=>S.mk' b q):=
 ⟨fun S c hc=>bG _ _ (by rw [hb];exact hc),fun S a ha=>bG _ _ (fun e=>ha (e▸hb)),fun S a v ha=>by
  unfold WS.mk';simp only [JT _ _ _ (show a/2≠b/2 by rw [hb];exact ha),JT _ true true (show a≠b from fun e=>ha (e▸hb))],fun S u v=>rfl⟩
theorem Loc.rS (x:Nat) (u v:Int):Loc x (fun S=>S.sc u v):=
 ⟨fun S c hc=>rfl,fun S a _=>rfl,fun S a v ha=>rfl,fun S a b=>by
  show (S.sc a b).sc u v=(S.sc u v).sc a b;rw [WS.cd,WS.cd];congr 1<;>omega⟩
theorem Loc.W {x:Nat} {f:WS->WS} (h:Loc x f) {D:Sh} {stop:Nat->Bool} {k:WS->Nat->Int} (hs: ∀a,a/2=x->stop a=true) (S:WS) (a:Nat):W D stop (f S) a k=W D stop S a fun S b=>k (f S) b:=by
 have aA: ∀a,stop a=false->a/2≠x:=fun a h e=>by rw [hs a e] at h;cases h
 exact IL f (fun S a h'=>h.ae S a (aA a h')) (fun S a h' _=>h.br D S (aA a h')) S a
theorem Wc (D:Sh) (S:WS) (a:Nat) (u v:Int):br D (S.sc u v) a=(br D S a).map (jC fun S=>S.sc u v):=
 (Loc.rS (a/2+1) u v).br D S (by omega)
theorem Q9 {D:Sh} {stop:Nat->Bool} {k:WS->Nat->Int} (u v:Int) (S:WS) (a:Nat):W D stop (S.sc u v) a k=W D stop S a fun S b=>k (S.sc u v) b:=
 IL (fun S=>S.sc u v) (fun S a _=>rfl) (fun S a _ _=>Wc D S a u v) S a
theorem Wb (D:Sh) (S:WS) (a:Nat):br D S.cr a=(br D S a).map (jC WS.cr):=by
 unfold br;show (if _ then _ else if S.st (a/2)=2 then _ else if S.st (a/2)=3 then _ else if S.st (a/2)=5 then _ else if S.st (a/2)=a % 2 then _ else if S.st (a/2)=1-a % 2 then _ else _)=_
 split
 ·rfl
 split
 ·rfl
 split
 ·rfl
 split
 ·rfl
 split
 ·rfl
 split
 ·rfl
 ·rfl
theorem Ra {D:Sh} {stop:Nat->Bool} {k:WS->Nat->Int} (S:WS) (a:Nat):W D stop S.cr a k=W D stop S a fun S b=>k S.cr b:=
 IL WS.cr (fun S a _=>rfl) (fun S a _ _=>Wb D S a) S a
def b9 (a:Nat):Nat->Bool:=fun x=>x==a
def zw (a x:Nat):Nat->Bool:=fun y=>y==a||decide (y/2=x)
theorem oB {a b:Nat} (h:b≠a):b9 a b=false:=by unfold b9;rw [zzU];exact h
theorem iX (a:Nat):b9 a a=true:=by simp [b9]
def aY (D:Sh) (S:WS) (a:Nat) (k:WS->Int):Int:=sumB (br D S a) fun S' b=>W D (b9 a) S' b fun S _=>k S
theorem I6 {D:Sh} {k:WS->Int} (u v:Int) (S:WS) (a:Nat):aY D (S.sc u v) a k=aY D S a fun S=>k (S.sc u v):=by
 unfold aY;rw [Wc,Fq];exact qm fun x _=>Q9 _ _ _ _
theorem I5 {D:Sh} {k:WS->Int} (S:WS) (a:Nat):aY D S.cr a k=aY D S a fun S=>k S.cr:=by
 unfold aY;rw [Wb,Fq];exact qm fun x _=>Ra _ _
theorem MA {D:Sh} {k k':WS->Int} {S:WS} {a:Nat}:aY D S a (fun S=>k S+k' S)=aY D S a k+aY D S a k':=by
 unfold aY;rw [<-JS];exact qm fun x _=>Ls (k:=fun S _=>k S) (k':=fun S _=>k' S)
theorem Sm {D:Sh} {k:WS->Int} (c:Int) {S:WS} {a:Nat}:aY D S a (fun S=>c*k S)=c*aY D S a k:=by
 unfold aY;rw [<-MU];exact qm fun x _=>VW (k:=fun S _=>k S) c
theorem Mz {D:Sh} {x:Nat} {f:WS->WS} (h:Loc x f) {k:WS->Int} (S:WS) {a:Nat} (ha:a/2≠x):
  aY D (f S) a k=sumB (br D S a) fun S' b=>W D (zw a x) S' b fun dB b'=>W D (b9 a) (f dB) b' fun S _=>k S:=by
 unfold aY;rw [h.br D S ha];rw [Fq];refine qm fun y _=>?_;show W D (b9 a) (f y.2.1) y.2.2 _=_;rw [I7 (s1:=zw a x) (fun b h=>by unfold b9 at h;simp [zw,h])];exact h.W (fun b h=>by simp [zw,h]) _ _
def run (X:Int->Int->Nat->Int) (D:Sh):List Nat->WS->Int
 |[],S=>X S.i S.j S.k
 |a::r,S=>if S.ae a=true then run X D r S else aY D S.cr a (run X D r)
def pq (D:Sh) (x:Nat):Nat:=if D.sg x=1 then 1 else 0
def nq (D:Sh) (x:Nat):Nat:=if D.sg x=1 then 0 else 1
theorem TG {D:Sh} {x:Nat} (hx:x<D.n) (hs:D.sg x=1\/D.sg x= -1) {S:WS} {b:Nat} (hb:b/2=x) {F:WS->Nat->Int}:
  sumB (br D ((S.sx x (pq D x)).sc (-1) 0) b) F=sumB (br D ((S.sx x (nq D x)).sc 1 0) b) F+sumB (br D ((S.sx x 5).sc 0 1) b) F:=by
 have aD: ¬2*D.n<=b:=by omega
 have e5:br D ((S.sx x 5).sc 0 1) b=[(1,(S.mk' b 2).sc 0 1,D.nx (co b))]:=by
  unfold br;rw [zzI aD]
  have:((S.sx x 5).sc 0 1).st (b/2)=5:=by rw [hb];exact bQ _ _ _
  rw [this,zzI (by decide),zzI (by decide),zzJ rfl,WS.dT,WS.uy _ _ _ hb]
 have eo: ∀q u v,q=b % 2->br D ((S.sx x q).sc u v) b=[(1,(S.mk' b 3).sc u v,D.nx b)]:=fun q u v hq=>by
  unfold br;rw [zzI aD]
  have:((S.sx x q).sc u v).st (b/2)=q:=by rw [hb];exact bQ _ _ _
  rw [this,zzI (by omega),zzI (by omega),zzI (by omega),zzJ hq,WS.dT,WS.uy _ _ _ hb]
 have eu: ∀q u v,q=1-b % 2->br D ((S.sx x q).sc u v) b=[(1,(S.mk' b 3).sc (u+2*dS D q x) v,D.nx b),(dS D q x,(S.mk' b 2).sc (u+dS D q x) (v+1),D.nx (co b))]:=fun q u v hq=>by
  unfold br;rw [zzI aD]
  have:((S.sx x q).sc u v).st (b/2)=q:=by rw [hb];exact bQ _ _ _
  rw [this,zzI (by omega),zzI (by omega),zzI (by omega),zzI (by omega),zzJ hq,WS.dT,WS.uy _ _ _ hb,WS.dT,WS.uy _ _ _ hb,WS.cd,WS.cd,Int.add_zero,hb]
 rw [e5];have hm:b % 2=0\/b % 2=1:=by omega
 unfold pq nq;rcases hs with hs|hs<;>rcases hm with hm|hm
 ·rw [zzJ hs,zzJ hs,eu 1 _ _ (by omega),eo 0 _ _ (by omega)];simp [sumB,dS,hs]
 ·rw [zzJ hs,zzJ hs,eo 1 _ _ (by omega),eu 0 _ _ (by omega)];simp [sumB,dS,hs];omega
 ·rw [zzI (by omega),zzI (by omega),eo 0 _ _ (by omega),eu 1 _ _ (by omega)];simp [sumB,dS,hs];omega
 ·rw [zzI (by omega),zzI (by omega),eu 0 _ _ (by omega),eo 1 _ _ (by omega)];simp [sumB,dS,hs]
theorem DO {X:Int->Int->Nat->Int} {D:Sh} {x:Nat} (hx:x<D.n) (hs:D.sg x=1\/D.sg x= -1): ∀(B:List Nat) (S:WS),S.ae (2*x)=false->S.ae (2*x+1)=false->2*x∈B->
  run X D B ((S.sx x (pq D x)).sc (-1) 0)=run X D B ((S.sx x (nq D x)).sc 1 0)+run X D B ((S.sx x 5).sc 0 1)
 |[],S,_,_,hB=>by cases hB
 |a::r,S,v0,v1,hB=>by
  simp only [run];show (if S.ae a=true then _ else _)=(if S.ae a=true then _ else _)+(if S.ae a=true then _ else _);cases hv:S.ae a with
  |true=>
   simp only [if_true];refine DO hx hs r S v0 v1 ?_;rcases List.mem_cons.1 hB with h|h
   ·rw [<-h,v0] at hv;cases hv
   ·exact h
  |false=>
   simp only [Bool.false_eq_true,if_false];by_cases ha:a/2=x
   ·unfold aY;rw [WS.eX,WS.eX,WS.eX,WS.qt,WS.qt,WS.qt];exact TG hx hs ha
   ·have aA:2*x≠a:=fun e=>ha (by omega);have hr:2*x∈r:=(List.mem_cons.1 hB).resolve_left aA;rw [WS.eX,WS.eX,WS.eX,WS.qt,WS.qt,WS.qt];rw [Mz ((Loc.rS x (-1) 0).comp (Loc.OO x (pq D x))) S.cr ha,Mz ((Loc.rS x 1 0).comp (Loc.OO x (nq D x))) S.cr ha,Mz ((Loc.rS x 0 1).comp (Loc.OO x 5)) S.cr ha,<-JS];refine qm fun y hy=>?_;rw [<-Ls]
    refine B9 (fun S _=>S.ae (2*x)=false/\S.ae (2*x+1)=false) ?_ ?_ ?_
    ·intro S b ⟨h0,h1⟩ aZ _ z hz;have hb:b/2≠x:=fun e=>by simp [zw,e] at aZ
     rw [(s8 hz).2];exact ⟨by rw [bG _ _ (by omega)];exact h0,by rw [bG _ _ (by omega)];exact h1⟩
    ·intro S b ⟨h0,h1⟩ aZ;by_cases hb:b/2=x
     ·have sG:b9 a b=false:=by
       show (b==a)=false;rw [zzU];exact fun e=>ha (e▸hb)
      have km:S.ae b=false:=by
       have:b=2*x\/b=2*x+1:=by omega
       rcases this with h|h<;>rw [h]<;>assumption
      rw [fA sG (by exact km),fA sG (by exact km),fA sG (by exact km)];exact TG hx hs hb
     ·have sG:b9 a b=true:=by simpa [zw,b9,hb] using aZ
      rw [iY sG,iY sG,iY sG];exact DO hx hs r S h0 h1 hr
    ·have:=(s8 hy).2
     rw [this];exact ⟨by rw [bG _ _ aA];exact v0,by rw [bG _ _ (by omega)];exact v1⟩
end Hs
namespace Hs
structure Ok (D:Sh):Prop where
 lt: ∀a,a<2*D.n->D.nx a<2*D.n
 inj: ∀a b,a<2*D.n->b<2*D.n->D.nx a=D.nx b->a=b
 sg: ∀c,c<D.n->D.sg c=1\/D.sg c= -1
def aP (q:Nat) (va vc:Bool) (A C:Prop):Prop:=
 ((q<=1\/q=5)/\va=false/\ ¬A)\/(q=4/\va=true/\A)\/(q=3/\(va=true↔A)/\va= !vc)\/(q=2/\(va=true↔C)/\va= !vc)
theorem aP.i0 {q:Nat} {va vc:Bool} {A C:Prop} (hq:q<=1\/q=5):aP q va vc A C↔va=false/\ ¬A:=by
 unfold aP;constructor
 ·rintro (⟨_,h⟩|⟨h,_⟩|⟨h,_⟩|⟨h,_⟩)
  ·exact h
  all_goals omega
 ·exact fun h=> .inl ⟨hq,h⟩
theorem aP.i4 {va vc:Bool} {A C:Prop}:aP 4 va vc A C↔va=true/\A:=by
 unfold aP;constructor
 ·rintro (⟨h,_⟩|⟨_,h⟩|⟨h,_⟩|⟨h,_⟩)
  ·omega
  ·exact h
  all_goals omega
 ·exact fun h=> .inr (.inl ⟨rfl,h⟩)
theorem aP.i3 {va vc:Bool} {A C:Prop}:aP 3 va vc A C↔(va=true↔A)/\va= !vc:=by
 unfold aP;constructor
 ·rintro (⟨h,_⟩|⟨h,_⟩|⟨_,h⟩|⟨h,_⟩)
  ·omega
  ·omega
  ·exact h
  ·omega
 ·exact fun h=> .inr (.inr (.inl ⟨rfl,h⟩))
theorem aP.i2 {va vc:Bool} {A C:Prop}:aP 2 va vc A C↔(va=true↔C)/\va= !vc:=by
 unfold aP;constructor
 ·rintro (⟨h,_⟩|⟨h,_⟩|⟨h,_⟩|⟨_,h⟩)
  ·omega
  ·omega
  ·omega
  ·exact h
 ·exact fun h=> .inr (.inr (.inr ⟨rfl,h⟩))
def Fit (D:Sh) (S:WS) (arr:Nat->Prop) (a:Nat):Prop:=aP (S.st (a/2)) (S.ae a) (S.ae (co a)) (arr (D.nx a)) (arr (D.nx (co a)))
def Inv (D:Sh) (S:WS) (arr:Nat->Prop):Prop:= ∀a,a<2*D.n->Fit D S arr a
theorem Inv.congr {D:Sh} {S:WS} {arr bw:Nat->Prop} (h:Inv D S arr) (he: ∀b,arr b↔bw b):Inv D S bw:=fun a ha=>by
 have:arr=bw:=funext fun b=>propext (he b)
 rw [<-this];exact h a ha
theorem BL {D:Sh} {S:WS} {a:Nat} {x:Int×WS×Nat} (h:x∈br D S a):x.2.2=D.nx a\/x.2.2=D.nx (co a):=by
 unfold br at h
 split at h
 ·cases h
 split at h
 ·rw [zzM] at h;subst h;exact .inr rfl
 split at h
 ·rw [zzM] at h;subst h;exact .inl rfl
 split at h
 ·rw [zzM] at h;subst h;exact .inr rfl
 split at h
 ·rw [zzM] at h;subst h;exact .inl rfl
 split at h
 ·rcases List.mem_cons.1 h with h|h
  ·subst h;exact .inl rfl
  ·rw [zzM] at h;subst h;exact .inr rfl
 ·cases h
theorem JR {D:Sh} {S:WS} {a:Nat} {x:Int×WS×Nat} (h:x∈br D S a):a<2*D.n/\ ∃v,x.2.1.st=aR S.st (a/2) v/\x.2.1.ae=aR S.ae a true/\
  ((S.st (a/2)=2/\v=4/\x.2.2=D.nx (co a))\/(S.st (a/2)=3/\v=4/\x.2.2=D.nx a)\/(S.st (a/2)=5/\v=2/\x.2.2=D.nx (co a))\/(S.st (a/2)<=1/\v=3/\x.2.2=D.nx a)\/(S.st (a/2)<=1/\S.st (a/2)≠a % 2/\v=2/\x.2.2=D.nx (co a))):=by
 unfold br at h
 split at h
 ·cases h
 refine ⟨by omega,?_⟩
 split at h
 ·rename_i h1;rw [zzM] at h;subst h;exact ⟨4,rfl,rfl, .inl ⟨h1,rfl,rfl⟩⟩
 split at h
 ·rename_i h1;rw [zzM] at h;subst h;exact ⟨4,rfl,rfl, .inr (.inl ⟨h1,rfl,rfl⟩)⟩
 split at h
 ·rename_i h1;rw [zzM] at h;subst h;exact ⟨2,rfl,rfl, .inr (.inr (.inl ⟨h1,rfl,rfl⟩))⟩
 split at h
 ·rename_i h1;rw [zzM] at h;subst h;exact ⟨3,rfl,rfl, .inr (.inr (.inr (.inl ⟨by omega,rfl,rfl⟩)))⟩
 split at h
 ·rename_i h0 h1
  rcases List.mem_cons.1 h with h|h
  ·subst h;exact ⟨3,rfl,rfl, .inr (.inr (.inr (.inl ⟨by omega,rfl,rfl⟩)))⟩
  ·rw [zzM] at h;subst h;exact ⟨2,rfl,rfl, .inr (.inr (.inr (.inr ⟨by omega,h0,rfl,rfl⟩)))⟩
 ·cases h
theorem Inv.step {D:Sh} (hD:Ok D) {S:WS} {arr:Nat->Prop} (h:Inv D S arr) {a:Nat} (hv:S.ae a=false) {x:Int×WS×Nat} (hx:x∈br D S a):Inv D x.2.1 (fun b=>arr b\/b=x.2.2)/\ ¬arr x.2.2:=by
 obtain ⟨aD,v,e1,e2,hc⟩:=JR hx;have tB:=fj aD;have fa:=h a aD;have fc:=h (co a) tB;unfold Fit at fa fc;rw [dJ,eY] at fc;rw [hv] at fa fc;have aA:=rN a;have i1:D.nx (co a)≠D.nx a:=fun e=>aA (hD.inj _ _ tB aD e)
 have key: ¬arr x.2.2/\aP v true (S.ae (co a)) (arr (D.nx a)\/D.nx a=x.2.2) (arr (D.nx (co a))\/D.nx (co a)=x.2.2)/\aP v (S.ae (co a)) true (arr (D.nx (co a))\/D.nx (co a)=x.2.2) (arr (D.nx a)\/D.nx a=x.2.2):=by
  rcases hc with ⟨q,rfl,hn⟩|⟨q,rfl,hn⟩|⟨q,rfl,hn⟩|⟨q,rfl,hn⟩|⟨q,_,rfl,hn⟩<;>rw [hn]
  ·rw [q,aP.i2] at fa fc
   have c1:S.ae (co a)=true:=by cases e:S.ae (co a) with
    |true=>rfl
    |false=>rw [e] at fa;exact absurd fa.2 (by decide)
   rw [c1,aP.i4,aP.i4];exact ⟨fun h=>absurd (fa.1.2 h) (by decide),⟨rfl, .inl (fc.1.1 c1)⟩,rfl, .inr rfl⟩
  ·rw [q,aP.i3] at fa fc
   have c1:S.ae (co a)=true:=by cases e:S.ae (co a) with
    |true=>rfl
    |false=>rw [e] at fa;exact absurd fa.2 (by decide)
   rw [c1,aP.i4,aP.i4];exact ⟨fun h=>absurd (fa.1.2 h) (by decide),⟨rfl, .inr rfl⟩,rfl, .inl (fc.1.1 c1)⟩
  ·rw [q,aP.i0 (.inr rfl)] at fa fc;rw [fc.1,aP.i2,aP.i2];exact ⟨fc.2,⟨⟨fun _=> .inr rfl,fun _=>rfl⟩,rfl⟩,⟨fun h=>absurd h (by decide),fun h=>(h.elim fa.2 fun e=>i1 e.symm).elim⟩,rfl⟩
  ·rw [aP.i0 (.inl q)] at fa fc;rw [fc.1,aP.i3,aP.i3];exact ⟨fa.2,⟨⟨fun _=> .inr rfl,fun _=>rfl⟩,rfl⟩,⟨fun h=>absurd h (by decide),fun h=>(h.elim fc.2 fun e=>i1 e).elim⟩,rfl⟩
  ·rw [aP.i0 (.inl q)] at fa fc;rw [fc.1,aP.i2,aP.i2];exact ⟨fc.2,⟨⟨fun _=> .inr rfl,fun _=>rfl⟩,rfl⟩,⟨fun h=>absurd h (by decide),fun h=>(h.elim fa.2 fun e=>i1 e.symm).elim⟩,rfl⟩
 refine ⟨?_,key.1⟩
 ·intro e he;unfold Fit;rw [e1,e2];by_cases C7:e/2=a/2
  ·rw [C7,bQ];rcases kj C7 with rfl|rfl
   ·rw [bQ,bG _ _ aA];exact key.2.1
   ·rw [bG _ _ aA,eY,bQ];exact key.2.2
  ·have n1:e≠a:=fun e'=>C7 (by rw [e']);have n2:co e≠a:=fun e'=>C7 (by rw [<-dJ e,e']);rw [bG _ _ C7,bG _ _ n1,bG _ _ n2];have k1:D.nx e≠x.2.2:=fun e'=>by
    rcases BL hx with hh|hh<;>rw [hh] at e'
    ·exact n1 (hD.inj _ _ he aD e')
    ·have:=hD.inj _ _ he tB e';rw [this,dJ] at C7;exact C7 rfl
   have k2:D.nx (co e)≠x.2.2:=fun e'=>by
    rcases BL hx with hh|hh<;>rw [hh] at e'
    ·exact n2 (hD.inj _ _ (fj he) aD e')
    ·have:=hD.inj _ _ (fj he) tB e'
     have:=congrArg co this
     rw [eY,eY] at this;exact n1 this
   have fe:=h e he;unfold Fit at fe;simp only [k1,k2,or_false];exact fe
structure qE (D:Sh) (S:WS) (p q:Nat):Prop where
 inv:Inv D S fun b=>(S.ae b=true/\b≠p)\/b=q
 vp:S.ae p=true
 lq:q<2*D.n
 vq:q=p\/S.ae q=false
def Bd (D:Sh) (S:WS):Prop:=Inv D S fun b=>S.ae b=true
theorem IK {D:Sh} (hD:Ok D) {S:WS} {a:Nat} {x:Int×WS×Nat} (h:x∈br D S a):x.2.2<2*D.n:=by
 have hl:=(s8 h).1;rcases BL h with e|e<;>rw [e]
 ·exact hD.lt _ hl
 ·exact hD.lt _ (fj hl)
theorem qE.step {D:Sh} (hD:Ok D) {S:WS} {p q:Nat} (h:qE D S p q) (hq:q≠p) {x:Int×WS×Nat} (hx:x∈br D S q):qE D x.2.1 p x.2.2:=by
 have hv:S.ae q=false:=h.vq.resolve_left hq;obtain ⟨h1,h2⟩:=h.inv.step hD hv hx;have e2:=(s8 hx).2;refine ⟨h1.congr fun b=>?_,?_,IK hD hx,?_⟩
 ·rw [e2];by_cases hb:b=q
  ·subst hb;rw [bQ];simp [hq]
  ·rw [bG _ _ hb];simp [hb]
 ·rw [e2,bG _ _ (Ne.symm hq)];exact h.vp
 ·by_cases e:x.2.2=p
  ·exact .inl e
  ·refine .inr ?_;have hb:x.2.2≠q:=fun e'=>h2 (.inr e');rw [e2,bG _ _ hb];cases hh:S.ae x.2.2 with
   |false=>rfl
   |true=>exact absurd (.inl ⟨hh,e⟩) h2
theorem Bd.start {D:Sh} (hD:Ok D) {S:WS} (h:Bd D S) {p:Nat} (hv:S.ae p=false) {x:Int×WS×Nat} (hx:x∈br D S p):qE D x.2.1 p x.2.2:=by
 obtain ⟨h1,h2⟩:=Inv.step hD h hv hx;have e2:=(s8 hx).2;refine ⟨h1.congr fun b=>?_,by rw [e2,bQ],IK hD hx,?_⟩
 ·rw [e2];by_cases hb:b=p
  ·subst hb;rw [bQ,hv];simp
  ·rw [bG _ _ hb];simp [hb]
 ·by_cases e:x.2.2=p
  ·exact .inl e
  ·refine .inr ?_;rw [e2,bG _ _ e];cases hh:S.ae x.2.2 with
   |false=>rfl
   |true=>exact absurd hh h2
theorem qE.close {D:Sh} {S:WS} {p:Nat} (h:qE D S p p):Bd D S:=h.inv.congr fun b=>by
 by_cases hb:b=p
 ·subst hb;simp [h.vp]
 ·simp [hb]
def ev (q q':Nat):Prop:=q'=q\/q'=4\/(q<=1/\(q'=2\/q'=3))\/(q=5/\q'=2)
structure Ext (S S':WS):Prop where
 ae: ∀a,S.ae a=true->S'.ae a=true
 st: ∀c,ev (S.st c) (S'.st c)
theorem Ext.bW (S:WS):Ext S S:=⟨fun _ h=>h,fun _=> .inl rfl⟩
theorem Ext.trans {S S' dB:WS} (h:Ext S S') (k:Ext S' dB):Ext S dB:=⟨fun a ha=>k.ae a (h.ae a ha),fun c=>by
 have h1:=h.st c;have h2:=k.st c;unfold ev at*;omega⟩
theorem Xj {D:Sh} {S:WS} {a:Nat} {x:Int×WS×Nat} (hx:x∈br D S a):Ext S x.2.1:=by
 obtain ⟨aD,v,e1,e2,hc⟩:=JR hx;refine ⟨fun b hb=>?_,fun c=>?_⟩
 ·rw [e2];unfold aR;split
  ·rfl
  ·exact hb
 ·rw [e1];unfold aR;split
  ·rename_i h;subst h;unfold ev;omega
  ·exact .inl rfl
theorem yx6 {D:Sh} (hD:Ok D) {S:WS} {p:Nat} {k k':WS->Int} (J:WS->Nat->Prop) (hB:Bd D S) (hv:S.ae p=false)
  (h0: ∀x∈br D S p,J x.2.1 x.2.2) (hJ: ∀S' b,qE D S' p b->Ext S S'->J S' b->b≠p-> ∀x∈br D S' b,J x.2.1 x.2.2)
  (hk: ∀S',Bd D S'->Ext S S'->S'.ae p=true->J S' p->k S'=k' S'):aY D S p k=aY D S p k':=by
 unfold aY;refine qm fun x hx=>B9 (fun S' b=>qE D S' p b/\Ext S S'/\J S' b) ?_ ?_ ⟨hB.start hD hv hx,Xj hx,h0 x hx⟩
 ·intro S' b ⟨h1,h2,h3⟩ hs cw y hy;have hb:b≠p:=fun e=>by rw [e,iX] at hs;cases hs
  exact ⟨h1.step hD hb hy,h2.trans (Xj hy),hJ S' b h1 h2 h3 hb y hy⟩
 ·intro S' b ⟨h1,h2,h3⟩ hs;have hb:b=p:=by simpa [b9] using hs
  subst hb;exact hk S' h1.close h2 h1.vp h3
theorem UC {D:Sh} (hD:Ok D) {S:WS} {p:Nat} {k k':WS->Int} (hB:Bd D S) (hv:S.ae p=false) (hk: ∀S',Bd D S'->Ext S S'->S'.ae p=true->k S'=k' S'):aY D S p k=aY D S p k':=
 yx6 hD (fun _ _=>True) hB hv (fun _ _=>trivial) (fun _ _ _ _ _ _ _ _=>trivial) fun S' h1 h2 h3 _=>hk S' h1 h2 h3
theorem Bd.sc {D:Sh} {S:WS} (h:Bd D S) (u v:Int):Bd D (S.sc u v):=h
theorem Bd.cr {D:Sh} {S:WS} (h:Bd D S):Bd D S.cr:=h
theorem EY {D:Sh} {X:Int->Int->Nat->Int} (u v:Int): ∀(B:List Nat) (S:WS),run X D B (S.sc u v)=run (fun i j k=>X (i+u) (j+v) k) D B S
 |[],S=>rfl
 |a::r,S=>by
  simp only [run];show (if S.ae a=true then _ else _)=_
  split
  ·exact EY u v r S
  ·rw [WS.eX,I6];congr 1;exact funext fun S=>EY u v r S
def Lt (D:Sh) (a:Nat) (e:Int) (k:WS->Int) (S:WS):Int:=if S.ae a=true then k S else k (S.sc (2*e) 0)+e*aY D (S.sc e 1) a k
theorem sP {D:Sh} {a:Nat} {e:Int} {k:WS->Int} {S:WS} (h:S.ae a=true):Lt D a e k S=k S:=zzJ h
theorem s7 {D:Sh} {a:Nat} {e:Int} {k:WS->Int} {S:WS} (h:S.ae a=false):Lt D a e k S=k (S.sc (2*e) 0)+e*aY D (S.sc e 1) a k:=zzI (by simp [h])
theorem A8 {D:Sh} (hD:Ok D) {a:Nat} {e:Int} {k k':WS->Int} {S:WS} (hB:Bd D S) (hk: ∀S',Bd D S'->Ext S S'->k S'=k' S'):Lt D a e k S=Lt D a e k' S:=by
 unfold Lt
 split
 ·exact hk S hB (.bW S)
 ·rename_i h
  have h1:k (S.sc (2*e) 0)=k' (S.sc (2*e) 0):=hk _ (hB.sc _ _) ⟨fun _ h=>h,fun _=> .inl rfl⟩;rw [h1,UC hD (S:=S.sc e 1) (hB.sc _ _) (show S.ae a=false by simpa using h) fun S' l7 hE _=>hk S' l7 ⟨hE.ae,hE.st⟩]
theorem Oi {D:Sh} (hD:Ok D) {a:Nat} {e:Int} (he:e=1\/e= -1) {k:WS->Int} {S:WS} (hB:Bd D S):Lt D a e (Lt D a (-e) k) S=k S:=by
 cases hv:S.ae a with
 |true=>rw [sP hv,sP hv]
 |false=>
  have cw: ∀u v,(S.sc u v).ae a=false:=fun _ _=>hv;rw [s7 hv,s7 (cw _ _),WS.cd,WS.cd];rw [UC hD (k':=k) (hB.sc _ _) (cw _ _) fun S' _ _ h=>sP h];have e1:2*e+2* -e=0:=by omega
  have e2:2*e+ -e=e:=by omega
  rw [e1,e2,Int.add_zero,WS.b8,Int.zero_add,Int.neg_mul];omega
end Hs
namespace Hs
def eQ (x:Nat):Nat->Bool:=fun c=>decide (c/2=x)
theorem Wa {x c:Nat} (h:c/2=x):eQ x c=true:=by unfold eQ;exact decide_eq_true h
theorem Im {x c:Nat} (h:c/2≠x):eQ x c=false:=by unfold eQ;exact decide_eq_false h
theorem V9 {x c:Nat} (h:eQ x c=true):c/2=x:=by unfold eQ at h;exact of_decide_eq_true h
theorem Il {x c:Nat} (h:eQ x c=false):c/2≠x:=by unfold eQ at h;exact of_decide_eq_false h
structure Arr (D:Sh) (x:Nat) (S:WS) (d:Nat) (S':WS) (c:Nat):Prop where
 at':c/2=x
 v: ∀a,a/2=x->S'.ae a=S.ae a
 st:S'.st x=S.st x
 dd:c=d\/S'.ae d=true
 oth: ∀e,e<2*D.n->e/2=x->D.nx e≠d->c≠D.nx e/\S'.ae (D.nx e)=S.ae (D.nx e)
theorem dH {D:Sh} (hD:Ok D) {x:Nat} {S:WS} {d:Nat} {K K':WS->Nat->Int} (h: ∀S' c,Arr D x S d S' c->K S' c=K' S' c):W D (eQ x) S d K=W D (eQ x) S d K':=by
 refine B9 (fun S' c=>(∀a,a/2=x->S'.ae a=S.ae a)/\S'.st x=S.st x/\(c=d\/S'.ae d=true)/\(∀e,e<2*D.n->e/2=x->D.nx e≠d->c≠D.nx e/\S'.ae (D.nx e)=S.ae (D.nx e))) ?_ ?_ ⟨fun _ _=>rfl,rfl, .inl rfl,fun e _ _ hn=>⟨Ne.symm hn,rfl⟩⟩
 ·intro S' c ⟨h1,h2,h3,h4⟩ hs hv y hy;have hc:=Il hs;obtain ⟨aD,v,e1,e2,_⟩:=JR hy;rw [e1,e2];refine ⟨fun a ha=>?_,?_,?_,fun e he hex hn=>?_⟩
  ·rw [bG _ _ fun e=>hc (by rw [<-e];exact ha)];exact h1 a ha
  ·rw [bG _ _ (Ne.symm hc)];exact h2
  ·by_cases hd:c=d
   ·right;rw [<-hd,bQ]
   ·right;rw [bG _ _ (Ne.symm hd)];exact h3.resolve_left hd
  ·obtain ⟨h5,h6⟩:=h4 e he hex hn;refine ⟨fun e'=>?_,by rw [bG _ _ (Ne.symm h5)];exact h6⟩;rcases BL hy with hh|hh<;>rw [hh] at e'
   ·have:=hD.inj _ _ aD he e';rw [this] at hc;exact hc hex
   ·have:=hD.inj _ _ (fj aD) he e';rw [<-this,dJ] at hex;exact hc hex
 ·intro S' c ⟨h1,h2,h3,h4⟩ hs;exact h S' c ⟨V9 hs,h1,h2,h3,h4⟩
def rR (D:Sh) (S:WS) (c:Nat) (F:WS->Nat->Int):Int:=if S.ae c=true then 0 else sumB (br D S c) F
theorem zB {D:Sh} {S:WS} {c:Nat} {F:WS->Nat->Int} (h:S.ae c=true):rR D S c F=0:=zzJ h
theorem vR {D:Sh} {S:WS} {c p:Nat} {k:WS->Nat->Int} (h:c≠p):W D (b9 p) S c k=rR D S c fun S d=>W D (b9 p) S d k:=by
 rw [AP,zzI (by simp [oB h])];rfl
theorem vQ {D:Sh} (hD:Ok D) {x p d:Nat} {S:WS} {k:WS->Nat->Int} (hp:p/2=x\/ ∃e,e<2*D.n/\e/2=x/\D.nx e=p) (hd:d≠p\/p/2=x):W D (b9 p) S d k=W D (eQ x) S d fun S' c=>W D (b9 p) S' c k:=by
 rw [I7 (s1:=zw p x) (fun b h=>by unfold b9 at h;simp [zw,h])];refine rh (fun S c S' c'=>S=S'/\c=c'/\(c=p->c/2=x)) ?_ _ _ _ _ ⟨rfl,rfl,fun e=>?_⟩
 ·intro S c S' c' ⟨e1,e2,h3⟩;subst e1 e2;refine ⟨?_,fun _=>rfl,fun hs=>⟨rfl,fun hv=>BR.w8 fun y hy=>⟨rfl,rfl,fun e=>?_⟩⟩⟩
  ·unfold zw eQ;by_cases h:c=p
   ·simp [h3 h]
   ·simp [h]
  ·have hc:c/2≠x:=fun e'=>by simp [zw,e'] at hs
   have hl:=(s8 hy).1;rcases hp with hp|⟨e0,h0,h1,h2⟩
   ·rw [e];exact hp
   ·exfalso;rw [<-h2] at e;rcases BL hy with hh|hh<;>rw [hh] at e
    ·have:=hD.inj _ _ hl h0 e;rw [this] at hc;exact hc h1
    ·have:=hD.inj _ _ (fj hl) h0 e;rw [<-this,dJ] at h1;exact hc h1
 ·rcases hd with hd|hd
  ·exact absurd e hd
  ·rw [e];exact hd
theorem EW {D:Sh} (hD:Ok D) {x b:Nat} {S:WS} {k:WS->Int} (hb: ∃e,e<2*D.n/\e/2=x/\D.nx e=b) (hv:S.ae b=false):aY D S b k=W D (eQ x) S b fun S' c=>rR D S' c fun dB d=>W D (b9 b) dB d fun S _=>k S:=by
 by_cases hx:b/2=x
 ·rw [iY (Wa hx)];unfold rR aY;rw [zzI (by simp [hv])]
 ·rw [fA (Im hx) hv];unfold aY;refine qm fun y hy=>?_;have hl:=(s8 hy).1;have hd:y.2.2≠b:=fun e=>by
   obtain ⟨e0,h0,h1,h2⟩:=hb;rw [<-h2] at e;rcases BL hy with hh|hh<;>rw [hh] at e
   ·have:=hD.inj _ _ hl h0 e;rw [this] at hx;exact hx h1
   ·have:=hD.inj _ _ (fj hl) h0 e;rw [<-this,dJ] at h1;exact hx h1
  rw [vQ hD (.inr hb) (.inl hd)];refine B9 (fun _ _=>True) (fun _ _ _ _ _ _ _=>trivial) (fun S c _ hs=>?_) trivial;exact vR fun e=>hx (by rw [<-e];exact V9 hs)
theorem rj {x:Nat} {f:WS->WS} (h:Loc x f) {D:Sh} {k:WS->Nat->Int} (S:WS) (a:Nat):W D (eQ x) (f S) a k=W D (eQ x) S a fun S b=>k (f S) b:=h.W (fun a h=>Wa h) S a
theorem DL (T:WS) {a b:Nat} (v w z:Nat) (h:a/2=b/2):(T.mk' a v).mk' b z=(T.mk' b w).mk' a z:=by
 unfold WS.mk';rw [h];simp only [Sq,WS.mk.injEq,and_true,true_and];by_cases e:a=b
 ·rw [e]
 ·exact JT _ _ _ e
theorem uZ {T:WS} {a x v:Nat} (h:a/2=x):(T.mk' a v).st x=v:=by unfold WS.mk';rw [<-h];exact bQ _ _ _
theorem l9 (T:WS) (a v:Nat):(T.mk' a v).ae a=true:=bQ _ _ _
theorem dZ (T:WS) {a b v:Nat} (h:b≠a):(T.mk' a v).ae b=T.ae b:=bG _ _ h
theorem qi {D:Sh} {S:WS} {c:Nat} (hl:c<2*D.n) (h:S.st (c/2)=3):br D S c=[(1,S.mk' c 4,D.nx c)]:=by
 unfold br;rw [zzI (by omega),zzI (by omega),zzJ h]
theorem mV {D:Sh} {S:WS} {c:Nat} (hl:c<2*D.n) (h:S.st (c/2)=2):br D S c=[(1,S.mk' c 4,D.nx (co c))]:=by
 unfold br;rw [zzI (by omega),zzJ h]
theorem tQ {D:Sh} {S:WS} {c:Nat} (hl:c<2*D.n) (h:S.st (c/2)=5):br D S c=[(1,S.mk' c 2,D.nx (co c))]:=by
 unfold br;rw [zzI (by omega),zzI (by omega),zzI (by omega),zzJ h]
theorem AM {D:Sh} {S:WS} {c:Nat} (hl:c<2*D.n) (h:S.st (c/2)=c % 2):br D S c=[(1,S.mk' c 3,D.nx c)]:=by
 unfold br;rw [zzI (by omega),zzI (by omega),zzI (by omega),zzI (by omega),zzJ h]
theorem Ih {D:Sh} {S:WS} {c:Nat} (hl:c<2*D.n) (h:S.st (c/2)=1-c % 2):br D S c=[(1,(S.mk' c 3).sc (2*dS D (S.st (c/2)) (c/2)) 0,D.nx c),(dS D (S.st (c/2)) (c/2),(S.mk' c 2).sc (dS D (S.st (c/2)) (c/2)) 1,D.nx (co c))]:=by
 unfold br;rw [zzI (by omega),zzI (by omega),zzI (by omega),zzI (by omega),zzI (by omega),zzJ h]
theorem sN (S:WS) (a:Nat) (F:WS->Nat->Int):sumB [(1,S,a)] F=F S a:=by simp [sumB]
theorem LO (S S':WS) (a a':Nat) (c:Int) (F:WS->Nat->Int):sumB [(1,S,a),(c,S',a')] F=F S a+c*F S' a':=by simp [sumB]
theorem uY {D:Sh} {S S':WS} {c d:Nat} {F:WS->Nat->Int} (h:S.ae c=false) (hb:br D S c=[(1,S',d)]):rR D S c F=F S' d:=by
 unfold rR;rw [zzI (by simp [h]),hb,sN]
section
variable {D:Sh} {x:Nat} {S:WS} {k:WS->Int}
theorem V8 (hD:Ok D) {a:Nat} (ha:a/2=x) (hl:a<2*D.n) (aZ:S.st x=3) (h1:S.ae a=false) (h2:S.ae (co a)=true):aY D S a k=W D (eQ x) S (D.nx a) fun S' c=>if c=a then k (S'.mk' a 4) else 0:=by
 unfold aY;rw [qi hl (by rw [ha];exact aZ),sN,vQ hD (.inl ha) (.inr ha),rj (Loc.pZ 4 ha)];refine dH hD fun S' c hA=>?_;by_cases hc:c=a
 ·rw [zzJ hc,hc,iY (iX a)]
 ·rw [zzI hc,vR hc];have e:c=co a:=(kj (hA.at'.trans ha.symm)).resolve_left hc;refine zB ?_;rw [dZ _ hc,hA.v c hA.at',e];exact h2
theorem Xi (hD:Ok D) {a:Nat} (ha:a/2=x) (hl:a<2*D.n) (aZ:S.st x=3) (h1:S.ae a=false) (h2:S.ae (co a)=true) (h3:S.ae (D.nx a)=false):aY D S (D.nx a) k=W D (eQ x) S (D.nx a) fun S' c=>if c=a then k (S'.mk' a 4) else 0:=by
 rw [EW (x:=x) hD ⟨a,hl,ha,rfl⟩ h3];refine dH hD fun S' c hA=>?_;by_cases hc:c=a
 ·rw [zzJ hc,hc,uY (by rw [hA.v a ha];exact h1) (qi hl (by rw [ha,hA.st];exact aZ)),iY (iX _)]
 ·rw [zzI hc];have e:c=co a:=(kj (hA.at'.trans ha.symm)).resolve_left hc;refine zB ?_;rw [hA.v c hA.at',e];exact h2
theorem FJ (hD:Ok D) {a:Nat} (ha:a/2=x) (hl:a<2*D.n) (aZ:S.st x=2) (h1:S.ae a=false) (h2:S.ae (co a)=true):aY D S a k=W D (eQ x) S (D.nx (co a)) fun S' c=>if c=a then k (S'.mk' a 4) else 0:=by
 unfold aY;rw [mV hl (by rw [ha];exact aZ),sN,vQ hD (.inl ha) (.inr ha),rj (Loc.pZ 4 ha)];refine dH hD fun S' c hA=>?_;by_cases hc:c=a
 ·rw [zzJ hc,hc,iY (iX a)]
 ·rw [zzI hc,vR hc];have e:c=co a:=(kj (hA.at'.trans ha.symm)).resolve_left hc;refine zB ?_;rw [dZ _ hc,hA.v c hA.at',e];exact h2
theorem Oh (hD:Ok D) {a:Nat} (ha:a/2=x) (hl:a<2*D.n) (aZ:S.st x=2) (h1:S.ae a=false) (h2:S.ae (co a)=true) (h3:S.ae (D.nx (co a))=false):aY D S (D.nx (co a)) k=W D (eQ x) S (D.nx (co a)) fun S' c=>if c=a then k (S'.mk' a 4) else 0:=by
 rw [EW (x:=x) hD ⟨co a,fj hl,(dJ a).trans ha,rfl⟩ h3];refine dH hD fun S' c hA=>?_;by_cases hc:c=a
 ·rw [zzJ hc,hc,uY (by rw [hA.v a ha];exact h1) (mV hl (by rw [ha,hA.st];exact aZ)),iY (iX _)]
 ·rw [zzI hc];have e:c=co a:=(kj (hA.at'.trans ha.symm)).resolve_left hc;refine zB ?_;rw [hA.v c hA.at',e];exact h2
theorem FI (hD:Ok D) {a:Nat} (ha:a/2=x) (hl:a<2*D.n) (aZ:S.st x=5) (h1:S.ae a=false) (h2:S.ae (co a)=false):aY D S a k=W D (eQ x) S (D.nx (co a)) fun S' c=>if c=a then k (S'.mk' a 2) else W D (eQ x) ((S'.mk' a 2).mk' (co a) 4) (D.nx a) fun dB c'=>if c'=a then k dB else 0:=by
 have tB:co a/2=x:=by rw [dJ];exact ha
 have bF:=fj hl;unfold aY;rw [tQ hl (by rw [ha];exact aZ),sN,vQ hD (.inl ha) (.inr ha),rj (Loc.pZ 2 ha)];refine dH hD fun S' c hA=>?_;by_cases hc:c=a
 ·rw [zzJ hc,hc,iY (iX a)]
 ·rw [zzI hc,vR hc];have e:c=co a:=(kj (hA.at'.trans ha.symm)).resolve_left hc;subst e;rw [uY (by rw [dZ _ hc,hA.v _ hA.at'];exact h2) (mV bF (by rw [tB,uZ ha])),eY,vQ hD (.inl ha) (.inr ha)];refine dH hD fun dB c' uR=>?_;by_cases dE:c'=a
  ·rw [zzJ dE,dE,iY (iX a)]
  ·rw [zzI dE,vR dE];have e:c'=co a:=(kj (uR.at'.trans ha.symm)).resolve_left dE;refine zB ?_;rw [uR.v c' uR.at',e];exact l9 _ _ _
theorem Og (hD:Ok D) {a:Nat} (ha:a/2=x) (hl:a<2*D.n) (aZ:S.st x=5) (h1:S.ae a=false) (h2:S.ae (co a)=false) (h3:S.ae (D.nx (co a))=false):aY D S (D.nx (co a)) k=W D (eQ x) S (D.nx (co a)) fun S' c=>if c=a then k (S'.mk' a 2) else W D (eQ x) ((S'.mk' a 2).mk' (co a) 4) (D.nx a) fun dB c'=>if c'=a then k dB else 0:=by
 have tB:co a/2=x:=by rw [dJ];exact ha
 have bF:=fj hl;have aA:D.nx a≠D.nx (co a):=fun e=>rN a (hD.inj _ _ hl bF e).symm;rw [EW (x:=x) hD ⟨co a,bF,tB,rfl⟩ h3];refine dH hD fun S' c hA=>?_;by_cases hc:c=a
 ·rw [zzJ hc,hc,uY (by rw [hA.v a ha];exact h1) (tQ hl (by rw [ha,hA.st];exact aZ)),iY (iX _)]
 ·rw [zzI hc];have e:c=co a:=(kj (hA.at'.trans ha.symm)).resolve_left hc;subst e;rw [uY (by rw [hA.v _ hA.at'];exact h2) (tQ bF (by rw [tB,hA.st];exact aZ)),eY,vQ hD (.inr ⟨co a,bF,tB,rfl⟩) (.inl aA)];rw [rj (Loc.pZ 2 tB),rj ((Loc.pZ 4 tB).comp (Loc.pZ 2 ha))];refine dH hD fun dB c' uR=>?_;have n1:=(uR.oth (co a) bF tB (Ne.symm aA)).1;rw [vR n1];by_cases dE:c'=a
  ·rw [zzJ dE,dE,uY (by rw [dZ _ (Ne.symm (rN a)),uR.v a ha,hA.v a ha];exact h1) (mV hl (by rw [ha,uZ tB])),iY (iX _),DL _ 2 2 4 (by rw [tB,ha])]
  ·rw [zzI dE];have e:c'=co a:=(kj (uR.at'.trans ha.symm)).resolve_left dE;rw [e];exact zB (l9 _ _ _)
end
theorem Mw {D:Sh} (hD:Ok D) {a:Nat} {e:Int} {k:WS->Int} {S:WS} (hB:Bd D S) (hl:a<2*D.n) (h:S.st (a/2)=3\/S.st (a/2)=4):Lt D a e k S=Lt D (D.nx a) e k S:=by
 have f:=hB a hl;unfold Fit at f;cases hv:S.ae a with
 |true=>
  have:S.ae (D.nx a)=true:=by
   rcases h with h|h<;>rw [h] at f
   ·exact (aP.i3.1 f).1.1 hv
   ·exact (aP.i4.1 f).2
  rw [sP hv,sP this]
 |false=>
  rcases h with h|h<;>rw [h] at f
  ·obtain ⟨f1,f2⟩:=aP.i3.1 f;have h3:S.ae (D.nx a)=false:=by
    cases e:S.ae (D.nx a) with
    |false=>rfl
    |true=>rw [f1.2 e] at hv;cases hv
   have h2:S.ae (co a)=true:=by
    cases e:S.ae (co a) with
    |true=>rfl
    |false=>rw [hv,e] at f2;exact absurd f2 (by decide)
   rw [s7 hv,s7 h3,V8 (S:=S.sc e 1) hD rfl hl h hv h2,Xi (S:=S.sc e 1) hD rfl hl h hv h2 h3]
  ·rw [(aP.i4.1 f).1] at hv;cases hv
theorem UB {D:Sh} (hD:Ok D) {a:Nat} {e:Int} {k:WS->Int} {S:WS} (hB:Bd D S) (hl:a<2*D.n) (h:S.st (a/2)=2\/S.st (a/2)=4\/S.st (a/2)=5):Lt D a e k S=Lt D (D.nx (co a)) e k S:=by
 have f:=hB a hl;have f':=hB (co a) (fj hl);unfold Fit at f f';rw [dJ,eY] at f';cases hv:S.ae a with
 |true=>
  have:S.ae (D.nx (co a))=true:=by
   rcases h with h|h|h<;>rw [h] at f f'
   ·exact (aP.i2.1 f).1.1 hv
   ·exact (aP.i4.1 f').2
   ·rw [((aP.i0 (.inr rfl)).1 f).1] at hv;cases hv
  rw [sP hv,sP this]
 |false=>
  rcases h with h|h|h<;>rw [h] at f f'
  ·obtain ⟨f1,f2⟩:=aP.i2.1 f;have h3:S.ae (D.nx (co a))=false:=by
    cases e:S.ae (D.nx (co a)) with
    |false=>rfl
    |true=>rw [f1.2 e] at hv;cases hv
   have h2:S.ae (co a)=true:=by
    cases e:S.ae (co a) with
    |true=>rfl
    |false=>rw [hv,e] at f2;exact absurd f2 (by decide)
   rw [s7 hv,s7 h3,FJ (S:=S.sc e 1) hD rfl hl h hv h2,Oh (S:=S.sc e 1) hD rfl hl h hv h2 h3]
  ·rw [(aP.i4.1 f).1] at hv;cases hv
  ·obtain ⟨g1,g2⟩:=(aP.i0 (.inr rfl)).1 f';have h3:S.ae (D.nx (co a))=false:=by simpa using g2
   rw [s7 hv,s7 h3,FI (S:=S.sc e 1) hD rfl hl h hv g1,Og (S:=S.sc e 1) hD rfl hl h hv g1 h3]
end Hs
namespace Hs
section
variable {D:Sh} {x q:Nat} {S:WS} {u o:Nat}
structure Fr (D:Sh) (x q u o:Nat):Prop where
 hx:x<D.n
 hq:q<=1
 hu:u=2*x+(1-q)
 ho:o=2*x+q
theorem Fr.f (h:Fr D x q u o):u/2=x/\o/2=x/\u<2*D.n/\o<2*D.n/\co u=o/\co o=u/\u≠o/\u % 2=1-q/\o % 2=q:=by
 obtain ⟨h1,h2,rfl,rfl⟩:=h;unfold co;refine ⟨by omega,by omega,by omega,by omega,?_,?_,by omega,by omega,by omega⟩<;>split<;>omega
theorem Fr.or (h:Fr D x q u o) {c:Nat} (hc:c/2=x):c=u\/c=o:=by
 obtain ⟨h1,h2,rfl,rfl⟩:=h;omega
theorem Fr.bo (h:Fr D x q u o) (hs:S.st x=q):br D S o=[(1,S.mk' o 3,D.nx o)]:=by
 obtain ⟨f1,f2,f3,f4,f5,f6,f7,f8,f9⟩:=h.f;exact AM f4 (by rw [f2,hs,f9])
theorem Fr.bu (h:Fr D x q u o) (hs:S.st x=q):br D S u=[(1,(S.mk' u 3).sc (2*dS D q x) 0,D.nx u),(dS D q x,(S.mk' u 2).sc (dS D q x) 1,D.nx o)]:=by
 obtain ⟨f1,f2,f3,f4,f5,f6,f7,f8,f9⟩:=h.f;rw [Ih f3 (by rw [f1,hs,f8];have:=h.hq;omega),f1,hs,f5]
theorem Xg {D:Sh} {S S1 S2:WS} {c d1 d2:Nat} {e:Int} {F:WS->Nat->Int} (h:S.ae c=false) (hb:br D S c=[(1,S1,d1),(e,S2,d2)]):rR D S c F=F S1 d1+e*F S2 d2:=by
 unfold rR;rw [zzI (by simp [h]),hb,LO]
theorem Gk (hD:Ok D) (h:Fr D x q u o) {k:WS->Nat->Int} {p c d:Nat} (hc:c/2=x) (aZ:S.st x=3) (h1:S.ae c=false) (h2:S.ae (co c)=true) (hp:p=D.nx c) (hd: ∃e,e/2=x/\d=D.nx e) (Hq:d≠p):
  W D (b9 p) S d k=W D (eQ x) S d fun S' c'=>if c'=c then k (S'.mk' c 4) p else 0:=by
 obtain ⟨f1,f2,f3,f4,f5,f6,f7,f8,f9⟩:=h.f;have bF:c<2*D.n:=by rcases h.or hc with rfl|rfl<;>assumption
 rw [vQ hD (.inr ⟨c,bF,hc,hp.symm⟩) (.inl Hq)];refine dH hD fun S' c' hA=>?_;have n1:c'≠p:=by rw [hp];exact (hA.oth c bF hc (by rw [<-hp];exact Ne.symm Hq)).1
 rw [vR n1];by_cases e:c'=c
 ·rw [zzJ e,e,uY (by rw [hA.v c hc];exact h1) (qi bF (by rw [hc,hA.st];exact aZ)),<-hp,iY (iX _)]
 ·rw [zzI e];refine zB ?_;rw [hA.v c' hA.at',(kj (hA.at'.trans hc.symm)).resolve_left e];exact h2
theorem OZ (hD:Ok D) (h:Fr D x q u o) {k:WS->Nat->Int} {p c d:Nat} (hc:c/2=x) (aZ:S.st x=2) (h1:S.ae c=false) (h2:S.ae (co c)=true) (hp:p=D.nx (co c)) (hd: ∃e,e/2=x/\d=D.nx e) (Hq:d≠p):
  W D (b9 p) S d k=W D (eQ x) S d fun S' c'=>if c'=c then k (S'.mk' c 4) p else 0:=by
 obtain ⟨f1,f2,f3,f4,f5,f6,f7,f8,f9⟩:=h.f;have bF:c<2*D.n:=by rcases h.or hc with rfl|rfl<;>assumption
 have BC:co c/2=x:=by rw [dJ];exact hc
 rw [vQ hD (.inr ⟨co c,fj bF,BC,hp.symm⟩) (.inl Hq)];refine dH hD fun S' c' hA=>?_;have n1:c'≠p:=by rw [hp];exact (hA.oth (co c) (fj bF) BC (by rw [<-hp];exact Ne.symm Hq)).1
 rw [vR n1];by_cases e:c'=c
 ·rw [zzJ e,e,uY (by rw [hA.v c hc];exact h1) (mV bF (by rw [hc,hA.st];exact aZ)),<-hp,iY (iX _)]
 ·rw [zzI e];refine zB ?_;rw [hA.v c' hA.at',(kj (hA.at'.trans hc.symm)).resolve_left e];exact h2
theorem Ct (hD:Ok D) {k:WS->Nat->Int} {p d:Nat} (hp:p/2=x) (h2:S.ae (co p)=true):W D (b9 p) S d k=W D (eQ x) S d fun S' c'=>if c'=p then k S' p else 0:=by
 rw [vQ hD (.inl hp) (.inr hp)];refine dH hD fun S' c' hA=>?_;by_cases e:c'=p
 ·rw [zzJ e,e,iY (iX _)]
 ·rw [zzI e,vR e];refine zB ?_;rw [hA.v c' hA.at',(kj (hA.at'.trans hp.symm)).resolve_left e];exact h2
variable {k:WS->Int}
theorem P1 (hD:Ok D) (h:Fr D x q u o) (aZ:S.st x=q) (vu:S.ae u=false) (vo:S.ae o=false) (h3:S.ae (D.nx u)=false):
  aY D S (D.nx u) k=W D (eQ x) S (D.nx u) fun S' c=>if c=u then k ((S'.mk' u 3).sc (2*dS D q x) 0)+dS D q x*W D (eQ x) ((S'.mk' u 2).sc (dS D q x) 1) (D.nx o) (fun dB c'=>if c'=o then k (dB.mk' o 4) else 0)
   else W D (eQ x) (S'.mk' o 3) (D.nx o) fun dB c'=>if c'=u then k (dB.mk' u 4) else 0:=by
 obtain ⟨f1,f2,f3,f4,f5,f6,f7,f8,f9⟩:=h.f;have aA:D.nx o≠D.nx u:=fun e=>f7 (hD.inj _ _ f4 f3 e).symm;rw [EW (x:=x) hD ⟨u,f3,f1,rfl⟩ h3];refine dH hD fun S' c hA=>?_;rcases h.or hA.at' with rfl|rfl
 ·rw [zzJ rfl,Xg (by rw [hA.v _ f1];exact vu) (h.bu (hA.st.trans aZ)),iY (iX _)];congr 2;exact OZ hD h f2 (uZ f1) (by show WS.ae (S'.mk' c 2) o=false;rw [dZ _ (Ne.symm f7),hA.v _ f2];exact vo) (by rw [f6];exact l9 S' c 2) (by rw [f6]) ⟨o,f2,rfl⟩ aA
 ·rw [zzI (Ne.symm f7),uY (by rw [hA.v _ f2];exact vo) (h.bo (hA.st.trans aZ))];exact Gk hD h f1 (uZ f2) (by rw [dZ _ f7,hA.v _ f1];exact vu) (by rw [f5];exact l9 _ _ _) rfl ⟨c,f2,rfl⟩ aA
theorem P2 (hD:Ok D) (h:Fr D x q u o) (aZ:S.st x=q) (vu:S.ae u=false) (vo:S.ae o=false) (h3:S.ae (D.nx o)=false):
  aY D S (D.nx o) k=W D (eQ x) S (D.nx o) fun S' c=>if c=u then W D (eQ x) ((S'.mk' u 3).sc (2*dS D q x) 0) (D.nx u) (fun dB c'=>if c'=o then k (dB.mk' o 4) else 0)+dS D q x*k ((S'.mk' u 2).sc (dS D q x) 1)
   else k (S'.mk' o 3):=by
 obtain ⟨f1,f2,f3,f4,f5,f6,f7,f8,f9⟩:=h.f;have aA:D.nx u≠D.nx o:=fun e=>f7 (hD.inj _ _ f3 f4 e);rw [EW (x:=x) hD ⟨o,f4,f2,rfl⟩ h3];refine dH hD fun S' c hA=>?_;rcases h.or hA.at' with rfl|rfl
 ·rw [zzJ rfl,Xg (by rw [hA.v _ f1];exact vu) (h.bu (hA.st.trans aZ)),iY (iX (D.nx o))];congr 1;exact Gk hD h f2 (uZ f1) (by show WS.ae (S'.mk' c 3) o=false;rw [dZ _ (Ne.symm f7),hA.v _ f2];exact vo) (by rw [f6];exact l9 S' c 3) rfl ⟨c,f1,rfl⟩ aA
 ·rw [zzI (Ne.symm f7),uY (by rw [hA.v _ f2];exact vo) (h.bo (hA.st.trans aZ)),iY (iX _)]
theorem P3 (hD:Ok D) (h:Fr D x q u o) (aZ:S.st x=q) (vu:S.ae u=false) (vo:S.ae o=false):
  aY D S u k=W D (eQ x) ((S.mk' u 3).sc (2*dS D q x) 0) (D.nx u) (fun S' c=>if c=u then k S' else W D (eQ x) (S'.mk' o 4) (D.nx o) fun dB c'=>if c'=u then k dB else 0)
   +dS D q x*W D (eQ x) ((S.mk' u 2).sc (dS D q x) 1) (D.nx o) (fun S' c=>if c=u then k S' else W D (eQ x) (S'.mk' o 4) (D.nx u) fun dB c'=>if c'=u then k dB else 0):=by
 obtain ⟨f1,f2,f3,f4,f5,f6,f7,f8,f9⟩:=h.f;unfold aY;rw [h.bu aZ,LO];congr 1
 ·rw [vQ hD (.inl f1) (.inr f1)];refine dH hD fun S' c hA=>?_;rcases h.or hA.at' with rfl|rfl
  ·rw [zzJ rfl,iY (iX _)]
  ·rw [zzI (Ne.symm f7),vR (Ne.symm f7),uY (by rw [hA.v _ f2];show WS.ae (S.mk' u 3) c=false;rw [dZ _ (Ne.symm f7)];exact vo) (qi f4 (by rw [f2,hA.st];exact uZ f1))];exact Ct hD f1 (by rw [f5];exact l9 _ _ _)
 ·congr 1;rw [vQ hD (.inl f1) (.inr f1)];refine dH hD fun S' c hA=>?_;rcases h.or hA.at' with rfl|rfl
  ·rw [zzJ rfl,iY (iX _)]
  ·rw [zzI (Ne.symm f7),vR (Ne.symm f7),uY (by rw [hA.v _ f2];show WS.ae (S.mk' u 2) c=false;rw [dZ _ (Ne.symm f7)];exact vo) (mV f4 (by rw [f2,hA.st];exact uZ f1)),f6];exact Ct hD f1 (by rw [f5];exact l9 _ _ _)
theorem P4 (hD:Ok D) (h:Fr D x q u o) (aZ:S.st x=q) (vu:S.ae u=false) (vo:S.ae o=false):
  aY D S o k=W D (eQ x) (S.mk' o 3) (D.nx o) fun S' c=>if c=u then W D (eQ x) (S'.mk' u 4) (D.nx u) (fun dB c'=>if c'=o then k dB else 0) else k S':=by
 obtain ⟨f1,f2,f3,f4,f5,f6,f7,f8,f9⟩:=h.f;unfold aY;rw [h.bo aZ,sN,vQ hD (.inl f2) (.inr f2)];refine dH hD fun S' c hA=>?_;rcases h.or hA.at' with rfl|rfl
 ·rw [zzJ rfl,vR f7,uY (by rw [hA.v _ f1,dZ _ f7];exact vu) (qi f3 (by rw [f1,hA.st];exact uZ f2))];exact Ct hD f2 (by rw [f6];exact l9 _ _ _)
 ·rw [zzI (Ne.symm f7),iY (iX _)]
theorem Of (T:WS) {a b:Nat} (v w z:Nat) (h:a/2=b/2):(T.mk' a v).mk' b z=(T.mk' a w).mk' b z:=by rw [DL T v 0 z h,<-DL T w 0 z h]
theorem JQ {T:WS} {a b v:Nat} (h:T.ae b=true):(T.mk' a v).ae b=true:=by
 by_cases e:b=a
 ·rw [e];exact l9 _ _ _
 ·rw [dZ _ e];exact h
theorem xd {p:Prop} [Decidable p] {f g:Int} (h:p->f=g):(if p then f else 0)=if p then g else 0:=by
 by_cases hp:p
 ·rw [zzJ hp,zzJ hp,h hp]
 ·rw [zzI hp,zzI hp]
theorem y4y (hD:Ok D) (h:Fr D x q u o) (hB:Bd D S) (aZ:S.st x=q) {e:Int} (he:e= -dS D q x):Lt D (D.nx u) e (Lt D (D.nx o) e k) S=Lt D o e (Lt D u e k) S:=by
 obtain ⟨f1,f2,f3,f4,f5,f6,f7,f8,f9⟩:=h.f;have hq:=h.hq;have fu:=hB u f3;have fo:=hB o f4;unfold Fit at fu fo;rw [f1,aZ,aP.i0 (.inl hq)] at fu;rw [f2,aZ,aP.i0 (.inl hq)] at fo;obtain ⟨vu,wu⟩:=fu;obtain ⟨vo,wo⟩:=fo;have XA:S.ae (D.nx u)=false:=by simpa using wu
 have OH:S.ae (D.nx o)=false:=by simpa using wo
 have aA:D.nx u≠D.nx o:=fun e=>f7 (hD.inj _ _ f3 f4 e);generalize hs:dS D q x=s at*;rw [s7 (a:=D.nx u) XA,s7 (a:=o) vo];have z1:Lt D (D.nx o) e k (S.sc (2*e) 0)=k (S.sc (4*e) 0)+e*aY D (S.sc (3*e) 1) (D.nx o) k:=by
  rw [s7 (by exact OH),WS.cd,WS.cd];congr 2
  ·congr 1;omega
  ·congr 2;omega
 have z2:Lt D u e k (S.sc (2*e) 0)=k (S.sc (4*e) 0)+e*aY D (S.sc (3*e) 1) u k:=by
  rw [s7 (by exact vu),WS.cd,WS.cd];congr 2
  ·congr 1;omega
  ·congr 2;omega
 rw [z1,z2,Int.add_assoc,Int.add_assoc,<-Int.mul_add,<-Int.mul_add];congr 2;have l2:aY D (S.sc e 1) (D.nx u) (Lt D (D.nx o) e k)=W D (eQ x) S (D.nx u) fun S' c=>if c=u then k ((S'.mk' u 3).sc e 1) else W D (eQ x) S' (D.nx o) fun dB c'=>if c'=u then k (((dB.mk' o 3).mk' u 4).sc e 1) else 0:=by
  rw [P1 hD h (by exact aZ) (by exact vu) (by exact vo) (by exact XA),hs,rj (Loc.rS x e 1)];refine dH hD fun S' c hA=>?_;have ho:=(hA.oth o f4 f2 (Ne.symm aA)).2;rcases h.or hA.at' with rfl|rfl
  ·rw [zzJ rfl,zzJ rfl];have g1:Lt D (D.nx o) e k ((((S'.sc e 1).mk' c 3).sc (2*s) 0))=k ((S'.mk' c 3).sc e 1)+e*W D (eQ x) S' (D.nx o) fun dB c'=>if c'=o then k (((dB.mk' c 3).mk' o 4).sc 0 2) else 0:=by
    have hv:WS.ae (S'.mk' c 3) (D.nx o)=false:=by
     by_cases e':D.nx o=c
     ·exact absurd e' (Ne.symm (hA.oth o f4 f2 (Ne.symm aA)).1)
     ·rw [dZ _ e',ho];exact OH
    rw [WS.dT,WS.cd,s7 (by exact hv),WS.cd,WS.cd];congr 1
    ·congr 2;omega
    ·congr 1;rw [show e+2*s+e=0 by omega,show (1:Int)+0+1=2 by omega,Xi (x:=x) hD f2 f4 (by exact uZ f1) (by show WS.ae (S'.mk' c 3) o=false;rw [dZ _ (Ne.symm f7),hA.v _ f2];exact vo) (by rw [f6];exact l9 S' c 3) (by exact hv),rj ((Loc.rS x 0 2).comp (Loc.pZ 3 f1))];rfl
   have g2:W D (eQ x) (((S'.sc e 1).mk' c 2).sc s 1) (D.nx o) (fun dB c'=>if c'=o then Lt D (D.nx o) e k (dB.mk' o 4) else 0)=W D (eQ x) S' (D.nx o) fun dB c'=>if c'=o then k (((dB.mk' c 3).mk' o 4).sc 0 2) else 0:=by
    rw [WS.dT,WS.cd,show e+s=0 by omega,show (1:Int)+1=2 by omega,rj ((Loc.rS x 0 2).comp (Loc.pZ 2 f1))];refine dH hD fun dB c' uR=>xd fun e'=>?_
    have:WS.ae ((dB.mk' c 2).mk' o 4) (D.nx o)=true:=by
     rcases uR.dd with hh|hh
     ·rw [<-hh,e'];exact l9 _ _ _
     ·exact JQ (JQ hh)
    rw [sP (by exact this),WS.dT,Of dB 2 3 4 (f1.trans f2.symm)]
   rw [g1,g2,he,Int.neg_mul];omega
  ·rw [zzI (Ne.symm f7),zzI (Ne.symm f7),rj ((Loc.pZ 3 f2).comp (Loc.rS x e 1))];refine dH hD fun dB c' uR=>xd fun e'=>?_
   have:WS.ae ((dB.mk' c 3).mk' u 4) (D.nx c)=true:=by
    rcases uR.dd with hh|hh
    ·rw [<-hh,e'];exact l9 _ _ _
    ·exact JQ (JQ hh)
   rw [WS.dT,WS.dT,sP (by exact this)]
 have r2:aY D (S.sc e 1) o (Lt D u e k)=W D (eQ x) S (D.nx o) fun S' c=>if c=u then W D (eQ x) S' (D.nx u) (fun dB c'=>if c'=o then k (((dB.mk' u 3).mk' o 4).sc e 1) else 0)
   else k ((S'.mk' o 3).sc (3*e) 1)+e*W D (eQ x) S' (D.nx u) fun dB c'=>if c'=u then k (((dB.mk' o 3).mk' u 4).sc (2*e) 2) else 0:=by
  rw [P4 hD h (by exact aZ) (by exact vu) (by exact vo),WS.dT,rj ((Loc.rS x e 1).comp (Loc.pZ 3 f2))];refine dH hD fun S' c hA=>?_;rcases h.or hA.at' with rfl|rfl
  ·rw [zzJ rfl,zzJ rfl,WS.dT,rj ((Loc.rS x e 1).comp ((Loc.pZ 4 f1).comp (Loc.pZ 3 f2)))];refine dH hD fun dB c' uR=>xd fun e'=>?_;rw [sP (by exact l9 (dB.mk' o 3) c 4),DL dB 3 3 4 (f2.trans f1.symm)]
  ·rw [zzI (Ne.symm f7),zzI (Ne.symm f7)];have hv:WS.ae (S'.mk' c 3) u=false:=by rw [dZ _ f7,hA.v _ f1];exact vu
   rw [s7 (by exact hv),WS.cd,WS.cd];congr 1
   ·congr 2;omega
   ·congr 1;rw [show e+e=2*e by omega,show (1:Int)+1=2 by omega,V8 (x:=x) hD f1 f3 (by exact uZ f2) (by exact hv) (by rw [f5];exact l9 S' c 3),rj ((Loc.rS x (2*e) 2).comp (Loc.pZ 3 f2))];rfl
 have l1:aY D (S.sc (3*e) 1) (D.nx o) k=W D (eQ x) S (D.nx o) fun S' c=>if c=u then W D (eQ x) S' (D.nx u) (fun dB c'=>if c'=o then k (((dB.mk' u 3).mk' o 4).sc e 1) else 0)+s*k ((S'.mk' u 2).sc (2*e) 2) else k ((S'.mk' o 3).sc (3*e) 1):=by
  rw [P2 hD h (by exact aZ) (by exact vu) (by exact vo) (by exact OH),hs,rj (Loc.rS x (3*e) 1)];refine dH hD fun S' c hA=>?_;rcases h.or hA.at' with rfl|rfl
  ·rw [zzJ rfl,zzJ rfl,WS.dT,WS.cd,WS.dT,WS.cd,show 3*e+2*s=e by omega,show 3*e+s=2*e by omega,show (1:Int)+0=1 by omega,show (1:Int)+1=2 by omega,rj ((Loc.rS x e 1).comp (Loc.pZ 3 f1))];rfl
  ·rw [zzI (Ne.symm f7),zzI (Ne.symm f7)];rfl
 have r1:aY D (S.sc (3*e) 1) u k=(W D (eQ x) S (D.nx u) fun S' c=>if c=u then k ((S'.mk' u 3).sc e 1) else W D (eQ x) S' (D.nx o) fun dB c'=>if c'=u then k (((dB.mk' o 3).mk' u 4).sc e 1) else 0)
   +s*W D (eQ x) S (D.nx o) fun S' c=>if c=u then k ((S'.mk' u 2).sc (2*e) 2) else W D (eQ x) S' (D.nx u) fun dB c'=>if c'=u then k (((dB.mk' o 3).mk' u 4).sc (2*e) 2) else 0:=by
  rw [P3 hD h (by exact aZ) (by exact vu) (by exact vo),hs];congr 1
  ·rw [WS.dT,WS.cd,show 3*e+2*s=e by omega,show (1:Int)+0=1 by omega,rj ((Loc.rS x e 1).comp (Loc.pZ 3 f1))];refine dH hD fun S' c hA=>?_;rcases h.or hA.at' with rfl|rfl
   ·rw [zzJ rfl,zzJ rfl]
   ·rw [zzI (Ne.symm f7),zzI (Ne.symm f7),WS.dT,rj ((Loc.rS x e 1).comp ((Loc.pZ 4 f2).comp (Loc.pZ 3 f1)))];refine dH hD fun dB c' uR=>xd fun e'=>?_;rw [DL dB 3 3 4 (f1.trans f2.symm)]
  ·congr 1;rw [WS.dT,WS.cd,show 3*e+s=2*e by omega,show (1:Int)+1=2 by omega,rj ((Loc.rS x (2*e) 2).comp (Loc.pZ 2 f1))];refine dH hD fun S' c hA=>?_;rcases h.or hA.at' with rfl|rfl
   ·rw [zzJ rfl,zzJ rfl]
   ·rw [zzI (Ne.symm f7),zzI (Ne.symm f7),WS.dT,rj ((Loc.rS x (2*e) 2).comp ((Loc.pZ 4 f2).comp (Loc.pZ 2 f1)))];refine dH hD fun dB c' uR=>xd fun e'=>?_;rw [DL dB 2 3 4 (f1.trans f2.symm)]
 rw [l1,l2,r1,r2];have key: ∀A B C E:Int,A=E+C->A+B=B+E+C:=fun A B C E h=>by omega
 refine key _ _ _ _ ?_;rw [<-VW,<-Ls];refine dH hD fun S' c hA=>?_;rcases h.or hA.at' with rfl|rfl
 ·rw [zzJ rfl,zzJ rfl,zzJ rfl];omega
 ·rw [zzI (Ne.symm f7),zzI (Ne.symm f7),zzI (Ne.symm f7),he,Int.neg_mul];omega
end
def Lw (D:Sh):List (Nat×Int)->(WS->Int)->WS->Int
 |[],k=>k
 |(a,e)::l,k=>Lt D a e (Lw D l k)
def iK (D:Sh) (a:Nat) (p:Bool):Nat:=if p then D.nx a else D.nx (co a)
def sl (D:Sh) (a:Nat):Int:=dS D (co a % 2) (a/2)
def mJ (D:Sh):List (Nat×Bool)->List (Nat×Int)
 |[]=>[]
 |(a,p)::l=>if p then (co a,sl D a)::mJ D l else mJ D l
def sI (D:Sh):Nat->List (Nat×Bool)->Nat->Prop
 |s,[],e=>s=e
 |s,(a,p)::l,e=>s=a/\sI D (iK D a p) l e
end Hs
end Go.Proofs.YtjpbeacamoijhaaGreatDoor
