/- Plain: sums and unions: the HOMFLY polynomials multiply. -/
import Derived.Test.YtjpbeacamoijhaaGreatDoorZk
import Derived.Test.YtjpbeacamoijhaaGreatDoorZa
import Derived.Test.YtjpbeacamoijhaaGreatDoorZc
import Derived.Test.YtjpbeacamoijhaaGreatDoorPl
namespace Go.Proofs.YtjpbeacamoijhaaGreatDoor
set_option linter.unusedSimpArgs false
set_option linter.unusedVariables false
namespace Hs
def Dl (g:Int->Int->Int) (a b:Int):Int:=g (a+1) (b+1)-g (a-1) (b+1)
def BK:Nat->(Int->Int->Int)->Int->Int->Int
 |0,g=>g
 |n+1,g=>Dl (BK n g)
theorem AN (a b i j:Int) {k:Nat} (hk:1<=k):Xh a b i j (k+1)=Xh (a+1) (b+1) i j k-Xh (a-1) (b+1) i j k:=by
 obtain ⟨n,rfl⟩: ∃n,k=n+1:=⟨k-1,by omega⟩;unfold Xh;have e1:((n+1:Nat):Int)-1=n:=by omega
 have e2:((n+1+1:Nat):Int)-1=n+1:=by omega
 rw [e1,e2,show n+1-1=n by omega,show n+1+1-1=n+1 by omega];by_cases h:b=j-(n+1)
 ·rw [zzJ h,zzJ (by omega),zzJ (by omega)];have e3:dN (n+1) (a-i)=dN n (a-i+1)-dN n (a-i-1):=rfl;rw [e3,show a+1-i=a-i+1 by omega,show a-1-i=a-i-1 by omega]
 ·rw [zzI h,zzI (by omega),zzI (by omega)];rfl
theorem Lz {s m:List Int} {L:Int} (X Y:Int->Int->Nat->Int):HF (fun i j k=>X i j k-Y i j k) s m L=HF X s m L-HF Y s m L:=by
 have hl:=R0 (D:=ak s m) (List.range (2*s.length)) (Z0 (fun _=>1) L.toNat);have h1:=hl.mul (-1) (fun t=>Y t.1 t.2.1 t.2.2);have h2:=hl.add (fun t=>X t.1 t.2.1 t.2.2) (fun t=> -1*Y t.1 t.2.1 t.2.2);have e:(fun i j k=>X i j k-Y i j k)=fun i j k=>X i j k+ -1*Y i j k:=by
  funext i j k;omega
 unfold HF;rw [e];refine h2.trans ?_;rw [h1];show run X _ _ _+ -1*run Y _ _ _=_;omega
section
variable {s m:List Int} {l:Nat}
theorem IE (h0:0<s.length\/0<l): ∀(n:Nat) (a b i j:Int),Xs (Xh a b) s m l i j (n+1)=BK n (iC s m l) (a-i) (b-j)
 |0,a,b,i,j=>by
  unfold Xs;have e:(fun i' j' k'=>Xh a b (i+i') (j+j') (0+1+k'-1))=Xh (a-i) (b-j):=by
   funext i' j' k';have h1:=congrFun (congrFun (congrFun (AO a b i) i') j') k';have h2:=congrFun (congrFun (congrFun (Is (a-i) b j) i') j') k';rw [show 0+1+k'-1=k' by omega];have h3:=congrFun (congrFun (congrFun (AO a b i) i') (j'+j)) k';rw [<-h2,<-h3];rw [show i+i'=i'+i by omega,show j+j'=j'+j by omega]
  rw [e];rfl
 |n+1,a,b,i,j=>by
  have ih:=IE h0 n;have e:Xs (Xh a b) s m l i j (n+1+1)=Xs (Xh (a+1) (b+1)) s m l i j (n+1)-Xs (Xh (a-1) (b+1)) s m l i j (n+1):=by
   unfold Xs;rw [<-Lz];refine BN _ _ (fun i' j' k' sy=>?_) (by rw [zzC];exact h0);rw [show n+1+1+k'-1=(n+1+k'-1)+1 by omega];exact AN _ _ _ _ (by omega)
  rw [e,ih,ih];show _=Dl (BK n (iC s m l)) (a-i) (b-j);unfold Dl;rw [show a+1-i=a-i+1 by omega,show b+1-j=b-j+1 by omega,show a-1-i=a-i-1 by omega]
theorem Iq (X:Int->Int->Nat->Int) (i j:Int) (k:Nat):Xu X s m l i j k=Xs X s m l i j (k+1):=by
 unfold Xu Xs;congr 1;funext i' j' k';rw [show k+1+k'-1=k+k' by omega]
theorem y87 (h0:0<s.length\/0<l) (a b:Int):iC s m ((l:Int)+1) a b=Dl (iC s m l) a b:=by
 unfold Dl iC;rw [y83,<-Lz];exact BN _ _ (fun i j k hk=>AN a b i j hk) (by rw [zzC];exact h0)
end
def kH:List ((Int×Int)×Int)->Int->Int->Int
 |[],_,_=>0
 |t::P,x,y=>(if t.1=(x,y) then t.2 else 0)+kH P x y
def ks:List ((Int×Int)×Int)->(Int->Int->Int)->Int->Int->Int
 |[],_,_,_=>0
 |t::P,g,a,b=>t.2*g (a-t.1.1) (b-t.1.2)+ks P g a b
theorem Md (x y:Int): ∀P Q,kH (P++Q) x y=kH P x y+kH Q x y
 |[],Q=>(Int.zero_add _).symm
 |t::P,Q=>by
  show _+kH (P++Q) x y=_+kH P x y+kH Q x y;rw [Md x y P Q];omega
theorem Mc (g:Int->Int->Int) (a b:Int): ∀P Q,ks (P++Q) g a b=ks P g a b+ks Q g a b
 |[],Q=>(Int.zero_add _).symm
 |t::P,Q=>by
  show _+ks (P++Q) g a b=_+ks P g a b+ks Q g a b;rw [Mc g a b P Q];omega
theorem Ns (g:Int->Int->Int) (a b:Int) (u:Int×Int): ∀P,ks P g a b=kH P u.1 u.2*g (a-u.1) (b-u.2)+ks (P.filter fun t=>t.1≠u) g a b
 |[]=>by show (0:Int)=0*_+0;omega
 |t::P=>by
  have ih:=Ns g a b u P;by_cases h:t.1=u
  ·rw [List.filter_cons_of_neg (by simp [h])];show t.2*g (a-t.1.1) (b-t.1.2)+ks P g a b=((if t.1=(u.1,u.2) then t.2 else 0)+kH P u.1 u.2)*_+_;rw [ih,zzJ h,h,Int.add_mul];omega
  ·rw [List.filter_cons_of_pos (by simp [h])];show t.2*g (a-t.1.1) (b-t.1.2)+ks P g a b=((if t.1=(u.1,u.2) then t.2 else 0)+kH P u.1 u.2)*_+(t.2*g (a-t.1.1) (b-t.1.2)+ks (P.filter fun t=>t.1≠u) g a b);rw [ih,zzI h,Int.zero_add];omega
theorem Ny (u:Int×Int) (x y:Int): ∀P,kH (P.filter fun t=>t.1≠u) x y=if (x,y)=u then 0 else kH P x y
 |[]=>by show (0:Int)=if _ then 0 else 0;split<;>rfl
 |t::P=>by
  have ih:=Ny u x y P;by_cases h:t.1=u
  ·rw [List.filter_cons_of_neg (by simp [h]),ih];by_cases h1:(x,y)=u
   ·rw [zzJ h1,zzJ h1]
   ·rw [zzI h1,zzI h1];show _=(if t.1=(x,y) then t.2 else 0)+kH P x y;rw [zzI (show¬t.1=(x,y) from fun e=>h1 (e.symm.trans h)),Int.zero_add]
  ·rw [List.filter_cons_of_pos (by simp [h])];show (if t.1=(x,y) then t.2 else 0)+kH (P.filter fun t=>t.1≠u) x y=_;rw [ih];by_cases h1:(x,y)=u
   ·rw [zzJ h1,zzJ h1,zzI (fun e=>h (e.trans h1))];rfl
   ·rw [zzI h1,zzI h1];rfl
theorem RU (g:Int->Int->Int) (a b:Int): ∀(n:Nat) (P Q:List ((Int×Int)×Int)),P.length+Q.length<=n->(∀x y,kH P x y=kH Q x y)->ks P g a b=ks Q g a b
 |0,P,Q,hn,h=>by
  obtain rfl:P=[]:=zzQ (by omega);obtain rfl:Q=[]:=zzQ (by omega);rfl
 |n+1,P,Q,hn,h=>by
  have step: ∀u:Int×Int,(∃t∈P,t.1=u)\/(∃t∈Q,t.1=u)->ks P g a b=ks Q g a b:=fun u hu=>by
   rw [Ns g a b u P,Ns g a b u Q,h u.1 u.2];congr 1;refine RU g a b n _ _ ?_ fun x y=>by rw [Ny,Ny,h]
   have l1:=List.length_filter_le (fun t:(Int×Int)×Int=>t.1≠u) P;have l2:=List.length_filter_le (fun t:(Int×Int)×Int=>t.1≠u) Q;rcases hu with ⟨t,ht,e⟩|⟨t,ht,e⟩
   ·have:(P.filter fun t=>t.1≠u).length<P.length:=by
     refine Nat.lt_of_le_of_ne l1 fun he=>?_
     have:=List.length_filter_eq_length_iff.1 he t ht
     simp [e] at this
    omega
   ·have:(Q.filter fun t=>t.1≠u).length<Q.length:=by
     refine Nat.lt_of_le_of_ne l2 fun he=>?_
     have:=List.length_filter_eq_length_iff.1 he t ht
     simp [e] at this
    omega
  cases P with
  |cons t P=>exact step t.1 (.inl ⟨t, .head _,rfl⟩)
  |nil=>
   cases Q with
   |nil=>rfl
   |cons t Q=>exact step t.1 (.inr ⟨t, .head _,rfl⟩)
def wY (u v c:Int) (P:List ((Int×Int)×Int)):List ((Int×Int)×Int):=P.map fun t=>((t.1.1+u,t.1.2+v),c*t.2)
theorem I0 (u v c x y:Int): ∀P,kH (wY u v c P) x y=c*kH P (x-u) (y-v)
 |[]=>(Int.mul_zero _).symm
 |t::P=>by
  show (if (t.1.1+u,t.1.2+v)=(x,y) then c*t.2 else 0)+kH (wY u v c P) x y=c*((if t.1=(x-u,y-v) then t.2 else 0)+kH P (x-u) (y-v));rw [I0 u v c x y P,Int.mul_add];congr 1;obtain ⟨⟨p,q⟩,r⟩:=t;by_cases h:p+u=x/\q+v=y
  ·rw [zzJ (by rw [h.1,h.2]),zzJ (by show (p,q)=_;rw [<-h.1,<-h.2];congr 1<;>omega)]
  ·rw [zzI (fun e=>h ⟨congrArg Prod.fst e,congrArg Prod.snd e⟩),zzI (fun e=>h ?_),Int.mul_zero];have e1:p=x-u:=congrArg Prod.fst e;have e2:q=y-v:=congrArg Prod.snd e;omega
theorem IZ (g:Int->Int->Int) (u v c a b:Int): ∀P,ks (wY u v c P) g a b=c*ks P g (a-u) (b-v)
 |[]=>(Int.mul_zero _).symm
 |t::P=>by
  show c*t.2*g (a-(t.1.1+u)) (b-(t.1.2+v))+ks (wY u v c P) g a b=c*(t.2*g (a-u-t.1.1) (b-v-t.1.2)+ks P g (a-u) (b-v));rw [IZ g u v c a b P,Int.mul_add,Int.mul_assoc,show a-(t.1.1+u)=a-u-t.1.1 by omega,show b-(t.1.2+v)=b-v-t.1.2 by omega]
def zW (i j:Int):Nat->List ((Int×Int)×Int)
 |0=>[((i,j),1)]
 |n+1=>wY (-1) (-1) 1 (zW i j n)++wY 1 (-1) (-1) (zW i j n)
theorem Ly (i j:Int): ∀(n:Nat) (x y:Int),kH (zW i j n) x y=Xh x y i j (n+1)
 |0,x,y=>by
  show (if (i,j)=(x,y) then (1:Int) else 0)+0=_;unfold Xh;rw [show ((0+1:Nat):Int)-1=0 by omega,show 0+1-1=0 by omega,Int.add_zero];unfold dN;by_cases h:i=x/\j=y
  ·rw [zzJ (by rw [h.1,h.2]),zzJ (by omega),zzJ (by omega)]
  ·rw [zzI (fun e=>h ⟨congrArg Prod.fst e,congrArg Prod.snd e⟩)];by_cases h1:y=j-0
   ·rw [zzJ h1,zzI (by omega)]
   ·rw [zzI h1]
 |n+1,x,y=>by
  show kH (wY (-1) (-1) 1 (zW i j n)++wY 1 (-1) (-1) (zW i j n)) x y=_;rw [AN x y i j (show 1<=n+1 by omega),Md,I0,I0,Ly i j n,Ly i j n,show x- -1=x+1 by omega,show y- -1=y+1 by omega];omega
theorem Lx (g:Int->Int->Int) (i j:Int): ∀(n:Nat) (a b:Int),ks (zW i j n) g a b=BK n g (a-i) (b-j)
 |0,a,b=>by show 1*g (a-i) (b-j)+0=g (a-i) (b-j);omega
 |n+1,a,b=>by
  show ks (wY (-1) (-1) 1 (zW i j n)++wY 1 (-1) (-1) (zW i j n)) g a b=Dl (BK n g) (a-i) (b-j);rw [Mc,IZ,IZ,Lx g i j n,Lx g i j n];unfold Dl;rw [show a- -1-i=a-i+1 by omega,show b- -1-j=b-j+1 by omega,show a-1-i=a-i-1 by omega];omega
theorem Wz (g:Int->Int->Int): ∀T:List (Int×Int×Int×Nat),(∀t∈T,1<=t.2.2.2)-> ∃P,(∀x y,kH P x y=nh T (Xh x y))/\ ∀a b,ks P g a b=nh T fun i j k=>BK (k-1) g (a-i) (b-j)
 |[],_=>⟨[],fun _ _=>rfl,fun _ _=>rfl⟩
 |t::T,h=>by
  obtain ⟨P,h1,h2⟩:=Wz g T fun u hu=>h u (.tail _ hu);have hk:=h t (.head _);refine ⟨wY 0 0 t.1 (zW t.2.1 t.2.2.1 (t.2.2.2-1))++P,fun x y=>?_,fun a b=>?_⟩
  ·rw [Md,I0,Ly,h1,Int.sub_zero,Int.sub_zero,show t.2.2.2-1+1=t.2.2.2 by omega];rfl
  ·rw [Mc,IZ,Lx,h2,Int.sub_zero,Int.sub_zero];rfl
theorem U1 (X:Int->Int->Nat->Int): ∀T,nh T (fun i j k=>if 1<=k then X i j k else 0)=nh (T.filter fun t=>1<=t.2.2.2) X
 |[]=>rfl
 |t::T=>by
  have ih:=U1 X T;by_cases h:1<=t.2.2.2
  ·rw [List.filter_cons_of_pos (by simp [h])];show t.1*(if 1<=t.2.2.2 then _ else 0)+nh T _=t.1*_+nh _ X;rw [zzJ h,ih]
  ·rw [List.filter_cons_of_neg (by simp [h])];show t.1*(if 1<=t.2.2.2 then _ else 0)+nh T _=_;rw [zzI h,ih,Int.mul_zero,Int.zero_add]
section
variable {s m:List Int} {l:Nat}
theorem Hl (v:iV s m l) (h0:0<s.length\/0<l): ∃T,(∀X,HF X s m l=nh T X)/\ ∀t∈T,1<=t.2.2.2:=by
 obtain ⟨T,t1,_,_⟩:=Jo (D:=ak s m) (fun c hc=>v.sg c hc) (l+fu (ak s m) (Z0 (fun _=>1) l)) (List.range (2*s.length)) (Z0 (fun _=>1) l) (zzA _);refine ⟨T.filter fun t=>1<=t.2.2.2,fun X=>?_,fun t ht=>by simpa using (List.mem_filter.1 ht).2⟩;rw [<-U1,BN X (fun i j k=>if 1<=k then X i j k else 0) (fun i j k hk=>(zzJ hk).symm) (by rw [zzC];exact h0)];unfold HF
 rw [zzC];exact t1 _
theorem Jn (v:iV s m l) (h0:0<s.length\/0<l) {P:List ((Int×Int)×Int)} (hP: ∀x y,kH P x y=iC s m l x y) (g:Int->Int->Int) (a b:Int):HF (fun i j k=>BK (k-1) g (a-i) (b-j)) s m l=ks P g a b:=by
 obtain ⟨T,t1,t2⟩:=Hl v h0;obtain ⟨Q,q1,q2⟩:=Wz g T t2;rw [t1,<-q2];exact RU g a b _ Q P (zzA _) fun x y=>by rw [q1,hP,<-t1];rfl
end
theorem NW {s1 m1 s2 m2:List Int} {l1 l2:Nat} (h1:bf s1 m1 l1=true) (h2:bf s2 m2 l2=true) (hn:s1.length+s2.length<=64) (hL:(l1:Int)+l2<=64) {x y:Nat} (hx:x<4*s1.length) (hy:y<4*s2.length) (ox:aj s1 (x:Int)=true) (oy:aj s2 (y:Int)=true)
  {P:List ((Int×Int)×Int)} (hP: ∀x y,kH P x y=iC s1 m1 l1 x y) (a b:Int):iC (s1++s2) (iO m1 m2 x y) ((l1:Int)+l2) a b=ks P (iC s2 m2 l2) a b:=by
 unfold iC;rw [y81 (Fb a b) h1 h2 hn hL hx hy ox oy,<-Jn (bV h1) (.inl (by omega)) hP];refine BN _ _ (fun i j k hk=>?_) (.inl (by omega))
 have:=IE (s:=s2) (m:=m2) (l:=l2) (.inl (by omega)) (k-1) a b i j
 rwa [show k-1+1=k by omega] at this
theorem NV {s1 m1 s2 m2:List Int} {l1 l2:Nat} (h1:bf s1 m1 l1=true) (h2:bf s2 m2 l2=true) (hl:0<l1+l2) (hv:bf (s1++s2) (Sp.bZ m1 m2) ((l1:Int)+l2-1)=true) (n1:0<s1.length\/0<l1) (n2:0<s2.length\/0<l2)
  {P:List ((Int×Int)×Int)} (hP: ∀x y,kH P x y=iC s1 m1 l1 x y) (a b:Int):iC (s1++s2) (Sp.bZ m1 m2) ((l1:Int)+l2-1) a b=ks P (iC s2 m2 l2) a b:=by
 unfold iC;rw [y82 (Fb a b) h1 h2 hl hv n1 n2,<-Jn (bV h1) n1 hP];refine BN _ _ (fun i j k hk=>?_) (by rw [zzC];exact n1)
 have:=IE (s:=s2) (m:=m2) (l:=l2) n2 (k-1) a b i j
 rwa [show k-1+1=k by omega] at this
theorem y5d {s1 m1 s2 m2:List Int} {l1 l2:Nat} (h1:bf s1 m1 l1=true) (h2:bf s2 m2 l2=true) (hv:bf (s1++s2) (Sp.bZ m1 m2) ((l1:Int)+l2)=true) (n1:0<s1.length\/0<l1) (n2:0<s2.length\/0<l2)
  {P:List ((Int×Int)×Int)} (hP: ∀x y,kH P x y=iC s1 m1 l1 x y) (a b:Int):iC (s1++s2) (Sp.bZ m1 m2) ((l1:Int)+l2) a b=Dl (ks P (iC s2 m2 l2)) a b:=by
 show HF (Xh a b) _ _ _=ks P _ (a+1) (b+1)-ks P _ (a-1) (b+1);rw [NY (Fb a b) h1 h2 hv n1 n2,<-Jn (bV h1) n1 hP,<-Jn (bV h1) n1 hP,<-Lz];refine BN _ _ (fun i j k hk=>?_) (by rw [zzC];exact n1);obtain ⟨n,rfl⟩: ∃n,k=n+1:=⟨k-1,by omega⟩;rw [Iq,IE n2,show n+1-1=n by omega];show Dl (BK n (iC s2 m2 l2)) (a-i) (b-j)=_;unfold Dl
 rw [show a+1-i=a-i+1 by omega,show b+1-j=b-j+1 by omega,show a-1-i=a-i-1 by omega]
end Hs
namespace Hs
theorem Wy (S:WS): ∀n,rl S n<=n
 |0=>zzA _
 |n+1=>by
  have:=Wy S n
  simp only [rl]
  split<;>omega
theorem HN (D:Sh) (S:WS):fu D S<=2*D.n:=by
 have: ∀k,unv S.ae k<=k:=fun k=>by
  induction k with
  |zero=>exact zzA _
  |succ k ih=>simp only [unv];split<;>omega
 exact this _
theorem W8 (X:Int->Int->Nat->Int): ∀T,nh T X≠0-> ∃t∈T,X t.2.1 t.2.2.1 t.2.2.2≠0
 |[],h=>absurd rfl h
 |t::T,h=>by
  by_cases h1:X t.2.1 t.2.2.1 t.2.2.2=0
  ·have h2:nh T X≠0:=fun e=>h (by show t.1*_+nh T X=0;rw [h1,e,Int.mul_zero];rfl);obtain ⟨u,hu,hx⟩:=W8 X T h2;exact ⟨u, .tail _ hu,hx⟩
  ·exact ⟨t, .head _,h1⟩
theorem RT (X:Int->Int->Nat->Int) (M:Int): ∀T:List (Int×Int×Int×Nat),(∀t∈T,(t.1=1\/t.1= -1)/\ -M<=X t.2.1 t.2.2.1 t.2.2.2/\X t.2.1 t.2.2.1 t.2.2.2<=M)-> -(T.length*M)<=nh T X/\nh T X<=T.length*M
 |[],_=>by
  show-(((0:Nat):Int)*M)<=0/\0<=((0:Nat):Int)*M;rw [show ((0:Nat):Int)=0 from rfl,Int.zero_mul];decide
 |t::T,h=>by
  have ih:=RT X M T fun u hu=>h u (.tail _ hu);obtain ⟨h1,h2,h3⟩:=h t (.head _);have e:(((t::T).length:Nat):Int)*M=T.length*M+M:=by
   rw [zzG,show ((T.length+1:Nat):Int)=(T.length:Int)+1 by omega,Int.add_mul,Int.one_mul]
  show-(((t::T).length:Nat)*M)<=t.1*X t.2.1 t.2.2.1 t.2.2.2+nh T X/\t.1*X t.2.1 t.2.2.1 t.2.2.2+nh T X<=((t::T).length:Nat)*M;rw [e];rcases h1 with h1|h1<;>rw [h1]
  ·rw [Int.one_mul];omega
  ·rw [Int.neg_one_mul];omega
section
variable {s m:List Int} {l:Nat}
theorem W7 (v:iV s m l): ∃T,(∀X,HF X s m l=nh T X)/\T.length<=2^s.length/\ ∀t∈T,(t.1=1\/t.1= -1)/\(-(2*s.length:Int)<=t.2.1/\t.2.1<=2*s.length)/\(0<=t.2.2.1/\t.2.2.1<=s.length)/\l<=t.2.2.2/\t.2.2.2<=l+2*s.length:=by
 have hf:=HN (ak s m) (Z0 (fun _=>1) l);have YL:fu (ak s m) (Z0 (fun _=>1) l)<=2*s.length:=hf;obtain ⟨T,t1,t2,t3⟩:=Jo (D:=ak s m) (fun c hc=>v.sg c hc) (l+fu (ak s m) (Z0 (fun _=>1) l)) (List.range (2*s.length)) (Z0 (fun _=>1) l) (zzA _);have hr:rl (Z0 (fun _=>1) l) (ak s m).n<=s.length:=Wy _ _
 refine ⟨T,fun X=>?_,Nat.le_trans t2 (Nat.pow_le_pow_right (by omega) hr),fun t ht=>?_⟩
 ·unfold HF;rw [zzC];exact t1 X
 ·have:=t3 t ht
  have e1:(Z0 (fun _=>1) l).i=0:=rfl;have e2:(Z0 (fun _=>1) l).j=0:=rfl;have e3:(Z0 (fun _=>1) l).k=l:=rfl;rw [e1,e2,e3] at this;omega
theorem IY (v:iV s m l) {a b:Int} (h:iC s m l a b≠0):(-(4*s.length+l:Int)<=a/\a<=4*s.length+l)/\ -(2*s.length+l:Int)<=b/\b<=s.length+1:=by
 obtain ⟨T,t1,_,t3⟩:=W7 v;obtain ⟨t,ht,hx⟩:=W8 _ T (by rw [<-t1];exact h)
 have:=t3 t ht
 unfold Xh at hx;by_cases hb:b=t.2.2.1-((t.2.2.2:Int)-1)
 ·rw [zzJ hb] at hx
  have:=pz _ _ hx
  omega
 ·rw [zzI hb] at hx;exact absurd rfl hx
theorem xL (v:iV s m l) (a b:Int): -(2^(3*s.length+l):Int)<=iC s m l a b/\iC s m l a b<=2^(3*s.length+l):=by
 obtain ⟨T,t1,t2,t3⟩:=W7 v;have pw: ∀{x y:Nat},x<=y->(2^x:Int)<=2^y:=fun {x y} h=>by
  have:=Nat.pow_le_pow_right (n:=2) (by omega) h
  exact_mod_cast this
 have h1:=RT (Xh a b) (2^(2*s.length+l)) T fun t ht=>by
  have:=t3 t ht
  refine ⟨this.1,?_⟩;have h2:=I3 (t.2.2.2-1) (a-t.2.1);have h3:=pw (show t.2.2.2-1<=2*s.length+l by omega);have h4:(0:Int)<=2^(2*s.length+l):=by
   have:=pw (Nat.zero_le (2*s.length+l))
   have e:(2:Int)^0=1:=rfl;omega
  unfold Xh
  split<;>omega
 rw [<-t1] at h1;have h5:((T.length:Nat):Int)*2^(2*s.length+l)<=2^(3*s.length+l):=by
  have:T.length*2^(2*s.length+l)<=2^(3*s.length+l):=by
   rw [show 3*s.length+l=s.length+(2*s.length+l) by omega,Nat.pow_add 2 s.length (2*s.length+l)];exact Nat.mul_le_mul_right _ t2
  exact_mod_cast this
 show-_<=HF (Xh a b) s m l/\HF (Xh a b) s m l<=_;omega
end
end Hs
namespace Hs
section
variable {s m:List Int} {L:Int}
theorem y88 {c:Nat} (hv:bf s m L=true) (hc:c<s.length) (cw:bf (dz s c) (fk s m c) (im s m c L)=true) (a b:Int):iC s m L a b=iC (kf s c) (jA s m c) L (a-2*s.getD c 0) b+s.getD c 0*iC (dz s c) (fk s m c) (im s m c L) (a-s.getD c 0) (b-1):=by
 rcases (bV hv).sg c hc with h|h
 ·have:=(Tl hv hc cw (a-1) b).1 h
  rw [show a-1+1=a by omega,show a-1-1=a-2 by omega] at this;rw [h,show a-2*1=a-2 by omega,Int.one_mul];exact this
 ·have:=(Tl hv hc cw (a+1) b).2 h
  rw [show a+1+1=a+2 by omega,show a+1-1=a by omega] at this;rw [h,show a-2* -1=a+2 by omega,show a- -1=a+1 by omega];omega
theorem y89 (hv:bf s m L=true) (hb:nJ s m=none) (a b:Int):iC s m L a b=Xh a b 0 0 (L.toNat+(dr s m).length):=y8t (Fb a b) hv hb
theorem Q8 (a b:Int):Xh a b 0 0 1=if a=0/\b=0 then 1 else 0:=by
 unfold Xh;show (if b=0-(((1:Nat):Int)-1) then (if a-0=0 then 1 else 0) else 0)=_;by_cases h:a=0/\b=0
 ·rw [zzJ (by omega),zzJ (by omega),zzJ h]
 ·rw [zzI h];by_cases h1:b=0-(((1:Nat):Int)-1)
  ·rw [zzJ h1,zzI (by omega)]
  ·rw [zzI h1]
theorem It (n:Nat) (a b:Int):Xh a b 0 0 (n+1+1)=Dl (fun a b=>Xh a b 0 0 (n+1)) a b:=AN a b 0 0 (by omega)
def dO (s m:List Int) (L:Int) (e:Int):Int:=iC s m L (aJ e) (aB e)
def zS (P:List (Int×Int)):List ((Int×Int)×Int):=P.map fun t=>((aJ t.1,aB t.1),t.2)
theorem W6: ∀(P:List (Int×Int)) (x y:Int),-8388608<=y/\y<8388608->kH (zS P) x y=cfL P (bA x y)
 |[],_,_,_=>rfl
 |t::P,x,y,h=>by
  show (if (aJ t.1,aB t.1)=(x,y) then t.2 else 0)+kH (zS P) x y=(if t.1=bA x y then t.2 else 0)+cfL P (bA x y);rw [W6 P x y h];congr 1;by_cases e:t.1=bA x y
  ·rw [zzJ e,zzJ (by rw [e,rn h,nM h])]
  ·rw [zzI e,zzI fun e'=>e ?_];have e1:aJ t.1=x:=congrArg Prod.fst e';have e2:aB t.1=y:=congrArg Prod.snd e';rw [<-e1,<-e2,rm]
theorem y9a {P:List (Int×Int)} {x y:Int} (h: ¬(-8388608<=y/\y<8388608)):kH (zS P) x y=0:=by
 induction P with
 |nil=>rfl
 |cons t P ih=>
  show (if (aJ t.1,aB t.1)=(x,y) then t.2 else 0)+kH (zS P) x y=0;rw [ih,zzI fun e=>h ?_]
  ·rfl
  ·have e2:aB t.1=y:=congrArg Prod.snd e;rw [<-e2];exact Fh _
theorem Lv {l:Nat} (v:iV s m l) (hn:s.length+l<=1000) {P:List (Int×Int)} (hP: ∀e,cfL P e=dO s m l e) (x y:Int):kH (zS P) x y=iC s m l x y:=by
 by_cases h: -8388608<=y/\y<8388608
 ·rw [W6 P x y h,hP];unfold dO;rw [rn h,nM h]
 ·rw [y9a h];by_cases h0:iC s m l x y=0
  ·exact h0.symm
  ·have:=IY v h0
   omega
theorem D9 {l:Nat} (v:iV s m l) (hn:s.length+l<=1000) {e e':Int} (h: -1048576<=aB e'/\aB e'<=1048576):dO s m l (e-e')=iC s m l (aJ e-aJ e') (aB e-aB e'):=by
 have e1:e-e'=bA (aJ e-aJ e') (aB e-aB e'):=by
  have h1:=rm e;have h2:=rm e';unfold bA at*;omega
 unfold dO;by_cases hz: -8388608<=aB e-aB e'/\aB e-aB e'<8388608
 ·rw [e1,rn hz,nM hz]
 ·have b1:=Fh e;have z1:iC s m l (aJ e-aJ e') (aB e-aB e')=0:=zzT fun h0=>by
   have:=IY v h0
   omega
  have z2:iC s m l (aJ (e-e')) (aB (e-e'))=0:=zzT fun h0=>by
   have:=IY v h0
   have k:aB (e-e')=aB e-aB e'-16777216\/aB (e-e')=aB e-aB e'+16777216:=by
    unfold aB at*;omega
   omega
  rw [z1,z2]
theorem L9 {l:Nat} (v:iV s m l) (hn:s.length+l<=1000) (e:Int): ∀P:List (Int×Int),(∀t∈P,-1048576<=aB t.1/\aB t.1<=1048576)->cvL P (dO s m l) e=ks (zS P) (iC s m l) (aJ e) (aB e)
 |[],_=>rfl
 |t::P,h=>by
  have ih:=L9 v hn e P fun u hu=>h u (.tail _ hu);show t.2*dO s m l (e-t.1)+cvL P (dO s m l) e=t.2*iC s m l (aJ e-aJ t.1) (aB e-aB t.1)+ks (zS P) (iC s m l) (aJ e) (aB e);rw [ih,D9 v hn (h t (.head _))]
end
end Hs
namespace Hs
def XE (k:Nat) (e:Int):Int:=Xh (aJ e) (aB e) 0 0 k
theorem tS (k:Nat):cb (XE k) (k+1):=fun e he=>by
 unfold XE Xh at he;by_cases hb:aB e=0-((k:Int)-1)
 ·rw [zzJ hb] at he
  have:=pz _ _ he
  omega
 ·rw [zzI hb] at he;exact absurd rfl he
theorem Dp (k:Nat) (e:Int): -(2^k:Int)<=XE k e/\XE k e<=2^k:=by
 unfold XE Xh;have h1:=I3 (k-1) (aJ e-0);have h2:((2^(k-1):Nat):Int)<=((2^k:Nat):Int):=Int.ofNat_le.2 (Nat.pow_le_pow_right (by decide) (Nat.sub_le k 1));rw [Int.natCast_pow,Int.natCast_pow] at h2;have h3:(0:Int)<=2^(k-1):=Int.pow_nonneg (by decide);have h4:(0:Int)<=2^k:=Int.le_trans h3 h2
 split
 ·exact ⟨Int.le_trans (Int.neg_le_neg h2) h1.1,Int.le_trans h1.2 h2⟩
 ·exact ⟨Int.neg_nonpos_of_nonneg h4,h4⟩
theorem Iw:cM [(0,1)] (XE 1):=by
 have b0:aJ 0=0/\aB 0=0:=by decide
 refine ⟨⟨by simp,fun t ht=>by simp only [zzM] at ht;subst ht;decide⟩,fun e=>?_⟩;unfold XE;rw [Q8];simp only [cfL,Int.add_zero];by_cases h:e=0
 ·subst h;rw [zzJ rfl,zzJ b0]
 ·rw [zzI (fun h'=>h h'.symm),zzI fun h'=>h ?_]
  have:=rm e
  rw [h'.1,h'.2] at this;rw [<-this];decide
theorem W0 {n:Nat} (hn:n<=1000) {e e':Int} (h: -1048576<=aB e'/\aB e'<=1048576):XE n (e-e')=Xh (aJ e-aJ e') (aB e-aB e') 0 0 n:=by
 have e1:e-e'=bA (aJ e-aJ e') (aB e-aB e'):=by
  have h1:=rm e;have h2:=rm e';unfold bA at*;omega
 unfold XE;by_cases hz: -8388608<=aB e-aB e'/\aB e-aB e'<8388608
 ·rw [e1,rn hz,nM hz]
 ·have b1:=Fh e;have k:aB (e-e')=aB e-aB e'-16777216\/aB (e-e')=aB e-aB e'+16777216:=by
   unfold aB at*;omega
  unfold Xh;rw [zzI (by omega),zzI (by omega)]
theorem Iv (n:Nat) (hn:n<=900) (e:Int):XE (n+1+1) e=XE (n+1) (e-bA (-1) (-1))-XE (n+1) (e-bA 1 (-1)):=by
 rw [W0 (by omega) (by rw [nM (by omega)];omega),W0 (by omega) (by rw [nM (by omega)];omega)];rw [rn (by omega),nM (by omega),rn (by omega),nM (by omega)];unfold XE;rw [It];unfold Dl;rw [show aJ e- -1=aJ e+1 by omega,show aB e- -1=aB e+1 by omega]
section
variable {s m:List Int} {l:Nat}
theorem e8 (v:iV s m l):cb (dO s m l) (4*s.length+l+1):=fun e he=>by
 have:=IY v he
 omega
theorem qU (v:iV s m l) (h:3*s.length+l<=50):nL (dO s m l):=fun e=>by
 have h1:=xL v (aJ e) (aB e);have h2:(2:Int)^(3*s.length+l)<=2^50:=by
  have:=Nat.pow_le_pow_right (n:=2) (by omega) h
  exact_mod_cast this
 have h3:(2:Int)^50=1125899906842624:=by decide
 unfold dO;omega
theorem sB (hv:bf s m l=true) (hb:nJ s m=none) (e:Int):dO s m l e=XE (l+(dr s m).length) e:=by
 unfold dO XE;rw [y89 hv hb];rfl
theorem sA {c l':Nat} (hv:bf s m l=true) (hc:c<s.length) (qA:im s m c l=l') (cw:bf (dz s c) (fk s m c) l'=true) (hw:bf (kf s c) (jA s m c) l=true) (hn:s.length+l<=300) (zo:(dz s c).length+l'<=1000) (ju:(kf s c).length=s.length) (e:Int):
  dO s m l e=dO (kf s c) (jA s m c) l (e-bA (2*s.getD c 0) 0)+s.getD c 0*dO (dz s c) (fk s m c) l' (e-bA (s.getD c 0) 1):=by
 have hs:=(bV hv).sg c hc;rw [D9 (bV hw) (by omega) (by rw [nM (by omega)];omega),D9 (bV cw) zo (by rw [nM (by omega)];omega)];rw [rn (by omega),nM (by omega),rn (by omega),nM (by omega)];unfold dO;rw [y88 hv hc (by rw [qA];exact cw),qA,Int.sub_zero]
end
end Hs
open Go Go.RowKit
set_option maxRecDepth 100000
set_option maxHeartbeats 8000000
theorem WZ {e c:Int} (hc:c≠0):cM [(e,c)] (cfL [(e,c)]):=⟨⟨by simp,fun t ht=>by simp only [zzM] at ht;subst ht;exact hc⟩,fun _=>rfl⟩
def ow:Int:=bA (-1) (-1)
def pv:Int:=bA 1 (-1)
abbrev mS:List (Int×Int):=[(ow,1),(pv,-1)]
theorem Jm:cM mS (cfL mS):=⟨⟨by decide,by decide⟩,fun _=>rfl⟩
theorem Th {e c:Int}: ∀x,cfL [(e,c)] x≠0->x=e:=fun x h=>by
 simp only [cfL,Int.add_zero] at h;by_cases he:e=x
 ·exact he.symm
 ·rw [zzI he] at h;exact absurd rfl h
theorem Nj:cb (cfL mS) 1:=fun e he=>by
 simp only [cfL,Int.add_zero] at he;by_cases h1:ow=e
 ·subst h1;decide
 ·rw [zzI h1] at he;by_cases h2:pv=e
  ·subst h2;decide
  ·rw [zzI h2] at he;exact absurd rfl he
theorem Ni (e:Int): -1<=cfL mS e/\cfL mS e<=1:=by
 simp only [cfL,Int.add_zero];by_cases h1:ow=e
 ·rw [zzJ h1,zzI (by rw [<-h1];decide)];omega
 ·rw [zzI h1];split<;>omega
theorem Ur:Fn Tryz.prog 43 [iy false [(ow,1)],iy false [(pv,1)]] (iy false mS):=by
 refine RY (N:=1) (WZ (by decide)) (WZ (by decide)) (fun e he=>?_) (fun e he=>?_) (by decide) (fun e=>?_) (fun e=>?_) ⟨Jm.asc,fun e=>?_⟩ (fun e=>?_)
 ·rw [Th e he];decide
 ·rw [Th e he];decide
 ·simp only [cfL];split<;>omega
 ·simp only [cfL];split<;>omega
 ·simp only [cfL];split<;>split<;>omega
 ·simp only [cfL];split<;>split<;>omega
theorem B7 {p:List (Int×Int)} {f:Int->Int} (hp:cM p f) (e:Int):cvL p (cfL mS) e=f (e-ow)-f (e-pv):=by
 rw [SR,hp.cf,hp.cf];omega
theorem cb.Zb {f:Int->Int} {N:Int} (h:cb f N) (hN:N<=1000):cb (fun e=>f (e-ow)-f (e-pv)) (N+1):=fun e he=>by
 by_cases h1:f (e-ow)=0
 ·have h2:f (e-pv)≠0:=fun h2=>he (by show f (e-ow)-f (e-pv)=0;rw [h1,h2];rfl);exact (h.shift (M:=1) (a:=1) (z:= -1) (by decide) (by decide) (by omega) (by decide)) e h2
 ·exact (h.shift (M:=1) (a:= -1) (z:= -1) (by decide) (by decide) (by omega) (by decide)) e h1
theorem Tg {k:Nat} (hk:k<=45) (e:Int): -35184372088832<=Hs.XE k e/\Hs.XE k e<=35184372088832:=by
 have h1:=Hs.Dp k e;have h2:((2^k:Nat):Int)<=((2^45:Nat):Int):=Int.ofNat_le.2 (Nat.pow_le_pow_right (by decide) hk);rw [Int.natCast_pow,Int.natCast_pow] at h2;have h3:((2:Nat):Int)^45=35184372088832:=by decide
 rw [h3] at h2;have h4:((2:Nat):Int)^k=2^k:=rfl;rw [h4] at h2;generalize (2:Int)^k=y at*;omega
theorem WY: ∀n:Nat,Hs.dN n (-(n:Int))=1
 |0=>rfl
 |n+1=>by
  unfold Hs.dN;have h1:=WY n;have h2:Hs.dN n (-((n+1:Nat):Int)-1)=0:=zzT fun h=>by
   have:=Hs.pz n _ h
   omega
  rw [h2,show-((n+1:Nat):Int)+1= -(n:Int) by omega,h1];rfl
theorem Iu {n:Nat} (hn:n<=900) {q:List (Int×Int)} (hq:cM q (Hs.XE (n+1))):q≠[]:=fun h=>by
 have h1:=hq.cf (bA (-(n:Int)) (-(n:Int)));rw [h] at h1;unfold Hs.XE Hs.Xh at h1;rw [rn (by omega),nM (by omega),zzJ (by omega),Nat.add_sub_cancel,Int.sub_zero,WY] at h1;simp [cfL] at h1
theorem ZS (k:Nat) (hk:1<=k/\k<=45) {p:List (Int×Int)} (hp:cM p (Hs.XE k)):Fn Tryz.prog 45 [I k] (iy false p):=by
 have t1:=Fs 1 (-1) (-1) (by decide) (by decide) (by decide) (by decide);have t2:=Fs 1 1 (-1) (by decide) (by decide) (by decide) (by decide);have t3:=Fs 1 0 0 (by decide) (by decide) (by decide) (by decide);have hF:=Ur;rw [show bA (-1) (-1)=ow from rfl] at t1;rw [show bA 1 (-1)=pv from rfl] at t2;rw [show bA 0 0=0 from rfl] at t3
 refine Fn.aG [.cell 2 29] Tryz.func45 rfl rfl (by decide) (by simp [Tryz.ntmps45]) ?_;rw [Tryz.ntmps45]
 repeat' (first|omega|(try apply ah);simp only [go_sem,sevalprocAttr,eG]|(refine ⟨aL.fn (r:=?_) rfl ?_ ?_⟩;rotate_left;assumption)|(refine ⟨bS.fn (r:=?_) rfl ?_ ?_⟩;rotate_left;assumption)|apply ag<;>(intro h_;(try simp only [h_]);revert h_)|apply zzL|with_reducible intro h_|trivial|simp only [go_sem,ai];omega)
 refine cN.intro (fun n fr H=> ∃(i:Nat) (q:List (Int×Int)),i+1<=k/\n=k-i/\cM q (Hs.XE (i+1))/\fr=[(11,I i),(10,I ((k:Int)-1)),(4, .ptr 2 0),(3, .ptr 1 0),(2, .ptr 0 0)]/\H=[(2, .cells 29 (.lst [.bool false,pD q])),(1, .cells 29 (.lst [.bool false,pD mS])),(0,AE)]) ?_ ?_
 ·refine ⟨_,_,_,Wk.sub ?_ ?_,0,[(0,1)],by omega,rfl,Hs.Iw,rfl,rfl⟩
  ·simp only [go_sem,sevalprocAttr,eG]
  ·simp only [go_sem,sevalprocAttr,eG]
 rintro n fr H ⟨i,q,hi,rfl,hq,rfl,rfl⟩;by_cases pO:i+1<k
 ·have bi:decide ((i:Int)<(k:Int)-1)=true:=by simp;omega
  have e2: ∀e,cvL q (cfL mS) e=Hs.XE (i+1+1) e:=fun e=>by rw [B7 hq,Hs.Iv i (by omega)];rfl
  obtain ⟨q',wi⟩:=Be (Hs.tS (i+1+1)) (by omega)
  have hM:=RV (p:=q) (q:=mS) (r:=q') (N:=50) (A:=35184372088832) (B:=1) hq Jm (Iu (by omega) hq) (by decide) ((Hs.tS (i+1)).mono (by omega)) (Nj.mono (by decide)) (by decide) (Tg (by omega)) Ni (by decide) (by decide) (by decide) (wi.congr fun e=>(e2 e).symm) (fun e=>by dsimp only;rw [e2];have:=Tg (k:=i+1+1) (by omega) e;omega) (fun e he=>by dsimp only at he;rw [e2] at he;have:=Hs.tS (i+1+1) e he;omega)
  repeat' (first|omega|(try apply ah);simp only [go_sem,sevalprocAttr,bi,eG]|(refine ⟨aL.fn (r:=?_) rfl ?_ ?_⟩;rotate_left;assumption)|(refine ⟨bS.fn (r:=?_) rfl ?_ ?_⟩;rotate_left;assumption)|apply ag<;>(intro h_;(try simp only [h_]);revert h_)|apply zzL|with_reducible intro h_|trivial|simp only [go_sem,ai];omega)
  refine ⟨_,_,_,?_,Wk.sub ?_ ?_,i+1,q',by omega,rfl,wi,rfl,rfl⟩
  ·omega
  ·simp only [go_sem,sevalprocAttr,eG]
  ·simp only [go_sem,sevalprocAttr,eG]
 ·obtain rfl:k=i+1:=by omega
  have bi:decide ((i:Int)<((i+1:Nat):Int)-1)=false:=by simp
  obtain rfl:q=p:=hq.uniq hp
  repeat' (first|omega|(try apply ah);simp only [go_sem,sevalprocAttr,bi,eG]|apply ag<;>(intro h_;(try simp only [h_]);revert h_)|apply zzL|with_reducible intro h_|trivial|simp only [go_sem,ai];omega)
  all_goals exact bE.refl _
end Go.Proofs.YtjpbeacamoijhaaGreatDoor
namespace Go.Proofs.YtjpbeacamoijhaaGreatDoor
open Sp
set_option linter.unusedSimpArgs false
set_option linter.unusedVariables false
structure rM (s m:List Int) (l:Nat):Prop where
 val:bf s m l=true
 len:3*s.length+l<=36
 n14:s.length<=9
 pos:0<s.length\/0<l
theorem RS {motive:List Int->List Int->Nat->Prop} (desc: ∀s m l,rM s m l->nJ s m=none->motive s m l)
  (step: ∀(s m:List Int) (l c l':Nat),rM s m l->nJ s m=some (c:Int)->c<s.length->(s.getD c 0=1\/s.getD c 0= -1)->im s m c l=l'->rM (kf s c) (jA s m c) l->(kf s c).length=s.length->rM (dz s c) (fk s m c) l'->(dz s c).length+1=s.length->motive (kf s c) (jA s m c) l->motive (dz s c) (fk s m c) l'->motive s m l):
  ∀s m l,rM s m l->motive s m l:=by
 have key: ∀(f:Nat) (s m:List Int) (l:Nat),rM s m l->s.length*s.length+bc s m+1<=f->motive s m l:=by
  intro f
  induction f with
  |zero=>intro s m l _ h;omega
  |succ f ih=>
   intro s m l h hf;have v:=bV h.val;have tC:=VO v;have hn:=h.n14;have hl:=h.len;cases hb:nJ s m with
   |none=>exact desc s m l h hb
   |some c=>
    have Qo:=Ui v.dw hb;obtain ⟨c,rfl⟩: ∃d:Nat,c=d:=⟨c.toNat,by omega⟩;have hc:c<s.length:=by omega
    have uF:=SP (m:=m) (b:=(s.getD c 0== -1)) (c:=c) (n:=s.length);have Bw:im s m c l=l+n9 m (s.getD c 0== -1) c s.length:=rfl;obtain ⟨v2,l2⟩:=ysz h.val hc (by omega);have v1:=iZ h.val hc;have pg:=Ii h.val hc hb;have tE:=VO (bV v2);obtain ⟨d,hd⟩: ∃d,s.length=d+1:=⟨s.length-1,by omega⟩;have hsq:s.length*s.length=d*d+2*d+1:=by rw [hd,Nat.add_mul,Nat.mul_add];omega
    obtain ⟨l',qA⟩: ∃l':Nat,im s m c l=l':=⟨(im s m c l).toNat,by omega⟩;have h1:rM (kf s c) (jA s m c) l:=⟨v1,by rw [dK];omega,by rw [dK];omega,by rw [dK];exact h.pos⟩;have h2:rM (dz s c) (fk s m c) l':=⟨by rw [<-qA];exact v2,by rw [l2];omega,by rw [l2];omega,by
     rw [l2];by_cases h1:0<s.length-1
     ·exact .inl h1
     ·have ng:s.length=1:=by omega
      obtain rfl:c=0:=by omega
      have:=y8i (m:=m) (b:=(s.getD 0 0== -1))
      rw [ng] at Bw;right;omega⟩
    exact step s m l c l' h hb hc (v.sg c hc) qA h1 (dK ..) h2 (by rw [l2];omega) (ih _ _ _ h1 (by rw [dK];omega)) (ih _ _ _ h2 (by rw [l2,hd,Nat.add_sub_cancel];rw [l2] at tE;omega))
 exact fun s m l h=>key _ s m l h (zzA _)
end Go.Proofs.YtjpbeacamoijhaaGreatDoor
set_option linter.unusedSimpArgs false
set_option linter.unusedVariables false
namespace Go.Proofs.YtjpbeacamoijhaaGreatDoor
open Go Go.RowKit
set_option maxRecDepth 100000
theorem L8 (h b:Int) (h0:0<=h) (h1:h<=100000):Fn Tryz.prog 110 [I h,I b] (I (iJ h b)):=y8a h b h0 h1
theorem ytt (s m:List Int) (L:Int) (hs:s.length<=1000) (hm:pT m s.length):Fn Tryz.prog 93 [dgA s m L] (.bool (qJ m s.length)):=by
 obtain ⟨p1,p2,p3,p4⟩:=NC hm;have iR:=hm.1;refine Fn.intro [.tmp 2] Tryz.func93 rfl rfl (by decide) (by simp [Tryz.ntmps93]) ?_;rw [Tryz.ntmps93]
 repeat' (first|omega|(try apply ah);simp only [go_sem,sevalprocAttr]|apply ag<;>(intro h_;(try simp only [h_]);revert h_)|apply zzL|with_reducible intro h_|trivial|simp only [go_sem,ai];omega)
 refine ⟨aL.fn rfl (y4t s m L hs hm) ?_⟩
 repeat' (first|omega|(try apply ah);simp only [go_sem,sevalprocAttr]|apply ag<;>(intro h_;(try simp only [h_]);revert h_)|apply zzL|with_reducible intro h_|trivial|simp only [go_sem,ai];omega)
 generalize Ag:(jw m s.length).1=part at*;generalize Ex:(jw m s.length).2=np at*;refine cN.intro (fun n fr H=> ∃k:Nat,k<=part.length/\n=part.length-k/\fr=[(22,I k),(21,I part.length),(20,roI part),(5, .sl 1 1 0 np.toNat),(3,roI part),(1, .ptr 0 0)]/\H=[(1, .cells 3 (.ints (kr part np.toNat k))),(0, .cells 24 (.lst [roI s,roI m,I L]))]) ?_ ?_
 ·refine ⟨_,_,_,?_,0,by omega,rfl,rfl,rfl⟩;refine Wk.sub ?_ ?_<;>simp only [go_sem,sevalprocAttr];simp [kr]
 rintro n fr H ⟨k,hk,rfl,rfl,rfl⟩;obtain ⟨d1,d2⟩:=JJ part np.toNat k;by_cases cJ:k<part.length
 ·have q4:=p4 k (by omega);have d3:=d2 (part.getD k 0).toNat
  repeat' (first|omega|(try apply ah);simp only [go_sem,sevalprocAttr]|apply ag<;>(intro h_;(try simp only [h_]);revert h_)|apply zzL|with_reducible intro h_|trivial|simp only [go_sem,ai];omega)
  refine ⟨_,_,_,?_,?_,⟨k+1,by omega,rfl,rfl,rfl⟩⟩
  ·omega
  ·refine Wk.sub ?_ ?_<;>simp only [go_sem,sevalprocAttr];rfl
 obtain rfl:k=part.length:=by omega
 repeat' (first|omega|(try apply ah);simp only [go_sem,sevalprocAttr]|apply ag<;>(intro h_;(try simp only [h_]);revert h_)|apply zzL|with_reducible intro h_|trivial|simp only [go_sem,ai];omega)
 refine cN.intro (fun n fr H=> ∃h:Nat,h<=m.length/\n=m.length-h/\fr=[(40,I h),(39,I m.length),(8, .sl 1 2 0 m.length),(5, .sl 1 1 0 np.toNat),(3,roI part),(1, .ptr 0 0)]/\H=[(2, .cells 4 (.bools (b7 m part np.toNat h).2)),(1, .cells 3 (.ints (b7 m part np.toNat h).1)),(0, .cells 24 (.lst [roI s,roI m,I L]))]) ?_ ?_
 ·refine ⟨_,_,_,?_,0,by omega,rfl,rfl,rfl⟩;refine Wk.sub ?_ ?_<;>simp only [go_sem,sevalprocAttr]
  all_goals simp [b7]
 rintro n fr H ⟨h,hh,rfl,rfl,rfl⟩;obtain ⟨e1,e2,e3⟩:=D8 m part np.toNat h;by_cases YG:h<m.length
 ·have q4:=p4 (h/4) (by omega);have e4:=e3 (part.getD (h/4) 0).toNat;have e5:(h:Int).tdiv 4=(h/4:Nat):=by rw [s9 (by omega)];omega
  have e6:((h:Int).toNat)=h:=by omega
  repeat' (first|omega|(try apply ah);simp only [go_sem,sevalprocAttr,e5]|apply ag<;>(intro h_;(try simp only [h_]);revert h_)|apply zzL|with_reducible intro h_|trivial|simp only [go_sem,ai];omega)
  ·have eS:b7 m part np.toNat (h+1)=b7 m part np.toNat h:=by
    simp only [b7,wX];rw [zzJ (by assumption)]
   refine ⟨_,_,_,?_,?_,⟨h+1,by omega,rfl,rfl,rfl⟩⟩
   ·omega
   ·refine Wk.sub ?_ ?_<;>(rw [eS];simp only [go_sem,sevalprocAttr])
  ·have hf:(b7 m part np.toNat h).2.getD h false=false:=by assumption
   have eS:b7 m part np.toNat (h+1)=((b7 m part np.toNat h).1.set (part.getD (h/4) 0).toNat ((b7 m part np.toNat h).1.getD (part.getD (h/4) 0).toNat 0+1),mark m (m.length+1) (b7 m part np.toNat h).2 h):=by
    simp only [b7,wX];rw [zzI (O6 hf)]
   have hu:=Ov (b7 m part np.toNat h).2;generalize (b7 m part np.toNat h).2=mE at*;generalize (b7 m part np.toNat h).1.set (part.getD (h/4) 0).toNat ((b7 m part np.toNat h).1.getD (part.getD (h/4) 0).toNat 0+1)=exc at*
   refine cN.intro (fun f fr H=> ∃(seen:List Bool) (g:Int),wT seen<f/\seen.length=m.length/\0<=g/\g<4*s.length/\mark m f seen g=mark m (m.length+1) mE h/\
    fr=[(10,I g),(40,I h),(39,I m.length),(8, .sl 1 2 0 m.length),(5, .sl 1 1 0 np.toNat),(3,roI part),(1, .ptr 0 0)]/\H=[(2, .cells 4 (.bools seen)),(1, .cells 3 (.ints exc)),(0, .cells 24 (.lst [roI s,roI m,I L]))]) ?_ ?_
   ·refine ⟨m.length+1,_,_,?_,mE,h,by omega,e2,by omega,by omega,rfl,rfl,rfl⟩;refine Wk.sub ?_ ?_<;>simp only [go_sem,sevalprocAttr]
   rintro f fr H ⟨seen,g,YK,Qi,hg0,BA,xA,rfl,rfl⟩;obtain ⟨f',rfl⟩: ∃f',f=f'+1:=⟨f-1,by omega⟩;have qz:=hm.2 g.toNat (by omega)
   repeat' (first|omega|(try apply ah);simp only [go_sem,sevalprocAttr]|apply ag<;>(intro h_;(try simp only [h_]);revert h_)|apply zzL|with_reducible intro h_|trivial|simp only [go_sem,ai];omega)
   ·refine ⟨aL.fn rfl (L8 _ _ qz.1 (by omega)) ?_⟩
    repeat' (first|omega|(try apply ah);simp only [go_sem,sevalprocAttr]|apply ag<;>(intro h_;(try simp only [h_]);revert h_)|apply zzL|with_reducible intro h_|trivial|simp only [go_sem,ai];omega)
    have oe:seen.getD g.toNat false=false:=by assumption
    have hus:=SJ (l:=seen) (i:=g.toNat) (by omega) oe;have CL:=FE (b:= -1) qz.1 qz.2;refine ⟨f',_,_,?_,?_,⟨seen.set g.toNat true,iJ (m.getD g.toNat 0) (-1),by omega,by simp [Qi],CL.1,CL.2,?_,rfl,rfl⟩⟩
    ·omega
    ·refine Wk.sub ?_ ?_<;>simp only [go_sem,sevalprocAttr]
    ·rw [<-xA];simp only [mark];rw [zzI (O6 oe)]
   ·have oe:seen.getD g.toNat false=true:=by assumption
    have PT:seen=mark m (m.length+1) mE h:=by rw [<-xA];simp only [mark];rw [zzJ oe]
    refine ⟨_,_,_,?_,?_,⟨h+1,by omega,rfl,rfl,rfl⟩⟩
    ·omega
    ·refine Wk.sub ?_ ?_<;>(rw [eS];simp only [go_sem,sevalprocAttr]);exact PT
 obtain rfl:h=m.length:=by omega
 repeat' (first|omega|(try apply ah);simp only [go_sem,sevalprocAttr]|apply ag<;>(intro h_;(try simp only [h_]);revert h_)|apply zzL|with_reducible intro h_|trivial|simp only [go_sem,ai];omega)
 refine cN.intro (fun n fr H=> ∃k:Nat,k<=np.toNat/\n=np.toNat-k/\(∀i,i<k->(b7 m part np.toNat m.length).1.getD i 0=2)/\fr=[(75,I k),(74,I np.toNat),(73, .sl 1 1 0 np.toNat)]/\H=[(1, .cells 3 (.ints (b7 m part np.toNat m.length).1))]) ?_ ?_
 ·refine ⟨_,_,_,?_,0,by omega,rfl,by omega,rfl,rfl⟩;refine Wk.sub ?_ ?_<;>simp only [go_sem,sevalprocAttr]
 rintro n fr H ⟨k,hk,rfl,cF,rfl,rfl⟩
 repeat' (first|omega|(try apply ah);simp only [go_sem,sevalprocAttr]|apply ag<;>(intro h_;(try simp only [h_]);revert h_)|apply zzL|with_reducible intro h_|trivial|simp only [go_sem,ai];omega)
 ·unfold qJ;rw [Ag,Ex];exact (ZX (k:=k) (by rw [(D8 m part np.toNat m.length).1];omega) (by assumption)).symm
 ·refine ⟨_,_,_,?_,?_,⟨k+1,by omega,rfl,fun i hi=>?_,rfl,rfl⟩⟩
  ·omega
  ·refine Wk.sub ?_ ?_<;>simp only [go_sem,sevalprocAttr]
  ·rcases zzV i k with g|g
   ·exact cF i g
   ·rw [show i=k by omega];assumption
 ·unfold qJ;rw [Ag,Ex];exact (ZB (fun i hi=>cF i (by rw [(D8 m part np.toNat m.length).1] at hi;omega))).symm
set_option maxHeartbeats 4000000
def WX:Tr:= .node [(0, .node [(1, .node [(2, .node [(3,trD [4,5,6]),(4,trD [3,5,6])]),(3, .node [(2,trD [4,5,6]),(4,trD [2,5,6])]),(4, .node [(2,trD [3,5,6]),(3,trD [2,5,6])])]),(3, .node [(1, .node [(2,trD [4,5,6]),(4,trD [2,5,6])]),(4,trD [1,2,5,6])]),(4, .node [(1, .node [(2,trD [3,5,6]),(3,trD [2,5,6])]),(3,trD [1,2,5,6])])]),(1, .node [(0, .node [(2, .node [(3,trD [4,5,6]),(4,trD [3,5,6])]),(3, .node [(2,trD [4,5,6]),(4,trD [2,5,6])]),(4, .node [(2,trD [3,5,6]),(3,trD [2,5,6])])]),(3, .node [(0, .node [(2,trD [4,5,6]),(4,trD [2,5,6])]),(4,trD [0,2,5,6])]),(4, .node [(0, .node [(2,trD [3,5,6]),(3,trD [2,5,6])]),(3,trD [0,2,5,6])])]),(3, .node [(0, .node [(1, .node [(2,trD [4,5,6]),(4,trD [2,5,6])]),(4,trD [1,2,5,6])]),(1, .node [(0, .node [(2,trD [4,5,6]),(4,trD [2,5,6])]),(4,trD [0,2,5,6])]),(4, .node [(0,trD [1,2,5,6]),(1,trD [0,2,5,6])])]),(4, .node [(0, .node [(1, .node [(2,trD [3,5,6]),(3,trD [2,5,6])]),(3,trD [1,2,5,6])]),(1, .node [(0, .node [(2,trD [3,5,6]),(3,trD [2,5,6])]),(3,trD [0,2,5,6])]),(3, .node [(0,trD [1,2,5,6]),(1,trD [0,2,5,6])])])]
theorem vd (s m:List Int) (L:Int):Fn Tryz.prog 39 [dgA s m L] (.bool (bf s m L)):=by
 refine Fn.intro [.tmp 2] Tryz.func39 rfl rfl (by decide) (by simp [Tryz.ntmps39]) ?_;rw [Tryz.ntmps39]
 repeat' (first|omega|(try apply ah);simp only [go_sem,sevalprocAttr]|apply ag<;>(intro h_;(try simp only [h_]);revert h_)|apply zzL|with_reducible intro h_|trivial|simp only [go_sem,ai];omega)
 ·exact uv (by omega)
 rotate_left
 ·exact uv (by omega)
 ·exact uv (by omega)
 ·exact uv (by omega)
 refine cN.intro (fun n fr H=> ∃k:Nat,k<=s.length/\n=s.length-k/\ta s k/\fr=[(34,I k),(33,I s.length),(32,roI s),(3,I s.length),(1, .ptr 0 0)]/\H=[(0, .cells 24 (.lst [roI s,roI m,I L]))]) ?_ ?_
 ·refine ⟨_,_,_,?_,0,by omega,rfl,(fun i hi=>by omega),rfl,rfl⟩;refine Wk.sub ?_ ?_<;>simp only [go_sem,sevalprocAttr]
 rintro n fr H ⟨k,hk,rfl,oV,rfl,rfl⟩
 repeat' (first|omega|(try apply ah);simp only [go_sem,sevalprocAttr]|apply ag<;>(intro h_;(try simp only [h_]);revert h_)|apply zzL|with_reducible intro h_|trivial|simp only [go_sem,ai];omega)
 ·exact uv fun hv=>by have:=hv.2.2.2.2.1 k (by omega);omega
 ·refine ⟨_,_,_,?_,?_,⟨k+1,by omega,rfl,NK oV (by omega),rfl,rfl⟩⟩
  ·omega
  ·refine Wk.sub ?_ ?_<;>simp only [go_sem,sevalprocAttr]
 ·refine ⟨_,_,_,?_,?_,⟨k+1,by omega,rfl,NK oV (by omega),rfl,rfl⟩⟩
  ·omega
  ·refine Wk.sub ?_ ?_<;>simp only [go_sem,sevalprocAttr]
 obtain rfl:k=s.length:=by omega
 refine cN.intro (fun n fr H=> ∃k:Nat,k<=m.length/\n=m.length-k/\yX s m k/\fr=[(48,I k),(47,I m.length),(46,roI m),(3,I s.length),(1, .ptr 0 0)]/\H=[(0, .cells 24 (.lst [roI s,roI m,I L]))]) ?_ ?_
 ·refine ⟨_,_,_,?_,0,by omega,rfl,(fun i hi=>by omega),rfl,rfl⟩;refine Wk.sub ?_ ?_<;>simp only [go_sem,sevalprocAttr]
 rintro n fr H ⟨h,hh,rfl,Ai,rfl,rfl⟩
 repeat' (first|omega|(first|apply ah|(refine ba.intro (id:=15) [[76,78,79],[75,78,79],[78,79],[75,76,77,79],[75,76,77,78],[],[]] [[],[0],[],[0,1,2],[0,1,2,3],[],[]] (by decide+kernel) mixed ?_)|(refine ba.bR (id:=15) (WX) (by decide+kernel) mixed ?_)|skip);simp only [go_sem,sevalprocAttr,↓reduceIte,reduceCtorEq,WX]|apply ag<;>(intro h_;(try simp only [h_]);revert h_)|apply zzL|with_reducible intro h_|trivial|simp only [go_sem,ai];omega)
 ·exact uv fun hv=>by have:=hv.2.2.2.2.2 h (by omega);omega
 ·have h4:m.getD h 0<4*s.length:=by assumption
  refine ⟨bS.fn rfl (Kn s m L h (by omega) (by omega) (by omega)) ?_⟩
  repeat' (first|omega|(try apply ah);simp only [go_sem,sevalprocAttr]|apply ag<;>(intro h_;(try simp only [h_]);revert h_)|apply zzL|with_reducible intro h_|trivial|simp only [go_sem,ai];omega)
  refine ⟨bS.fn rfl (Kn s m L (m.getD h 0) (by assumption) h4 (by omega)) ?_⟩
  repeat' (first|omega|(try apply ah);simp only [go_sem,sevalprocAttr]|apply ag<;>(intro h_;(try simp only [h_]);revert h_)|apply zzL|with_reducible intro h_|trivial|simp only [go_sem,ai];omega)
  ·exact uv fun hv=>by have:=hv.2.2.2.2.2 h (by omega);simp_all
  ·refine ⟨_,_,_,?_,?_,⟨h+1,by omega,rfl,VC Ai ⟨by assumption,h4,by assumption,by assumption,by assumption⟩,rfl,rfl⟩⟩
   ·omega
   ·refine Wk.sub ?_ ?_<;>simp only [go_sem,sevalprocAttr]
 ·exact uv fun hv=>by have:=hv.2.2.2.2.2 h (by omega);omega
 ·exact uv fun hv=>by have:=hv.2.2.2.2.2 h (by omega);omega
 ·exact uv fun hv=>by have:=hv.2.2.2.2.2 h (by omega);omega
 ·have hm:m.length=4*s.length:=by omega
  obtain rfl:h=4*s.length:=by omega
  refine ⟨aL.fn rfl (ytt s m L (by omega) ⟨hm,fun i hi=>⟨(Ai i hi).1,(Ai i hi).2.1⟩⟩) ?_⟩
  repeat' (first|omega|(try apply ah);simp only [go_sem,sevalprocAttr]|apply ag<;>(intro h_;(try simp only [h_]);revert h_)|apply zzL|with_reducible intro h_|trivial|simp only [go_sem,ai];omega)
  exact vbT ⟨by omega,hm,by assumption,by assumption,oV,Ai⟩
abbrev dgC (s m:List Int) (L:Int):Cs:= .lst [roI s,roI m,I L]
attribute [go_sem] dgC
def yQ:List (List Nat):=[[18,19,20,21,22,23,8],[18,19,20,21,22,23,8],[18,19,20,21,22,23,8],[18,19,20,21,22,23,8],[14,15,16,17,22,23,8],[14,15,16,17,22,23,8],[14,15,16,17,22,23,8],[14,15,16,17,22,23,8],[14,15,16,17,18,19,20,21,8],[14,15,16,17,18,19,20,21,8],[8],[14,15,16,17,18,19,20,21,22,23,24],[]]
def yP:List (List Nat):=[[],[],[],[],[0,1,2,3],[0,1,2,3],[0,1,2,3],[0,1,2,3],[0,1,2,3,4,5,6,7],[0,1,2,3,4,5,6,7],[],[0,1,2,3,4,5,6,7,8,9,10],[]]
def yO:List (List Nat):=[[35,36,37,38,39,40],[35,36,37,38,39,40],[33,34,36,37,38,39,40],[33,34,35,37,38,39],[33,34,35,36,38],[33,34,35,36,37],[33,34,35,36],[33,34,35],[],[]]
def yN:List (List Nat):=[[53,54,55,56,57,58],[53,54,55,56,57,58],[51,52,54,56,57],[51,52,53,56,57],[51,52,56,57],[51,52,53,54,55,57],[51,52,53,54,55,56],[51,52],[],[]]
theorem y17 (g:Nat) (cap:List AV) (rb:Int->Int->Int) (h:Int) (h0:0<=h) (h1:h<=10000) (az:(cap.all p1)=true) (hf:Fn Tryz.prog g ([I (h/4),I (h % 4)]++cap) (I (rb (h/4) (h % 4)))):
  Fn Tryz.prog 109 [I h, .rp (.lst [.fn g cap]) 0] (I (iJ h (rb (h/4) (h % 4)))):=by
 have e1:h.tmod 4=h % 4:=MI h0;have e2:h.tdiv 4=h/4:=s9 h0;refine Fn.intro [.tmp 3] Tryz.func109 rfl rfl (by decide) (by simp [Tryz.ntmps109]) ?_;rw [Tryz.ntmps109]
 repeat' (first|omega|(try apply ah);simp only [go_sem,sevalprocAttr,e1,e2]|apply ag<;>(intro h_;(try simp only [h_]);revert h_)|apply zzL|with_reducible intro h_|trivial|simp only [go_sem,ai];omega)
 refine ⟨aL.fn ?_ hf ?_⟩
 ·simp only [List.all_cons,mY az];rfl
 repeat' (first|omega|(try apply ah);simp only [go_sem,sevalprocAttr]|apply ag<;>(intro h_;(try simp only [h_]);revert h_)|apply zzL|with_reducible intro h_|trivial|simp only [go_sem,ai];omega)
 refine ⟨aL.fn rfl (L8 h _ h0 (by omega)) ?_⟩
 repeat' (first|omega|(try apply ah);simp only [go_sem,sevalprocAttr]|apply ag<;>(intro h_;(try simp only [h_]);revert h_)|apply zzL|with_reducible intro h_|trivial|simp only [go_sem,ai];omega)
theorem y9b (s m:List Int) (L:Int) (g1 g2:Nat) (c1 c2:List AV) (rb:Int->Int->Int) (sg:Int->Int) (hs:s.length<=1000) (hm:pT m s.length) (az:(c1.all p1)=true) (aU:(c2.all p1)=true)
  (hb: ∀c x:Int,0<=c->c<s.length->0<=x->x<4->Fn Tryz.prog g1 ([I c,I x]++c1) (I (rb c x))) (hg: ∀c:Nat,c<s.length->Fn Tryz.prog g2 ([I c]++c2) (I (sg c))/\InI (s.getD c 0*sg c)):
  Fn Tryz.prog 66 [dgA s m L, .fn g1 c1, .fn g2 c2] (dgA (w6 s sg s.length) (xb m (fun h=>iJ h (rb (h/4) (h % 4))) m.length) L):=by
 have iR:=hm.1
 have KH: ∀h:Int,0<=h->h<4*s.length->Fn Tryz.prog 109 [I h, .rp (.lst [.fn g1 c1]) 0] (I (iJ h (rb (h/4) (h % 4)))):=fun h h0 h1=>
  y17 g1 c1 rb h h0 (by omega) az (hb _ _ (by omega) (by omega) (by omega) (by omega))
 refine Fn.intro [.cell 6 24] Tryz.func66 rfl rfl (by decide) (by simp [Tryz.ntmps66]) ?_;rw [Tryz.ntmps66]
 repeat' (first|omega|(first|apply ah|(refine ba.intro (id:=2) yQ yP (by decide+kernel) mixed ?_)|(refine ba.intro (id:=6) yO [[],[],[0,1],[0,1,2],[0,1,2,3],[0,1,2,3,4],[0,1,2,3],[0,1,2],[],[]] (by decide+kernel) mixed ?_)|(refine ba.intro (id:=11) yN [[],[],[0,1],[0,1,2],[0,1],[0,1,2,3,4],[0,1,2,3,4,5],[0,1],[],[]] (by decide+kernel) mixed ?_)|skip);simp only [go_sem,sevalprocAttr,oE az,mY az,oD az,lX az,oC az,mh az,mj az,me az,mg az,oE aU,mY aU,oD aU,lX aU,oC aU,mh aU,mj aU,me aU,mg aU,↓reduceIte,reduceCtorEq,yQ,yP,yO,yN]|apply ag<;>(intro h_;(try simp only [h_]);revert h_)|apply zzL|with_reducible intro h_|trivial|simp only [go_sem,ai];omega)
 refine cN.intro (fun n fr H=> ∃k:Nat,k<=s.length/\n=s.length-k/\fr=[(28,I k),(27,I s.length),(26,roI s),(8, .ptr 14 0),(7, .fn 109 [.ptr 1 0]),(6, .ptr 2 0),(3, .ptr 0 0),(2, .fn g2 c2)]/\
  H=[(14, .cells 24 (.lst [.sl 1 6 0 s.length, .sl 1 10 0 m.length,I L])),(10, .cells 3 (.ints (List.replicate m.length 0))),(6, .cells 3 (.ints (w6 s sg k++List.replicate (s.length-k) 0))),(2, .cells 24 (.lst [.nils, .nils,I 0])),(1, .cells 101 (.lst [.fn g1 c1])),(0, .cells 24 (.lst [roI s,roI m,I L]))]) ?_ ?_
 ·refine ⟨_,_,_,?_,0,by omega,rfl,rfl,rfl⟩;refine Wk.sub ?_ ?_<;>simp only [go_sem,sevalprocAttr]
  all_goals simp [w6,lX az,lX aU]
 rintro n fr H ⟨k,hk,rfl,rfl,rfl⟩;have gl:=JH s sg k;by_cases cJ:k<s.length
 ·obtain ⟨BA,Ap⟩:=hg k cJ
  repeat' (first|omega|(first|apply ah|(refine ba.intro (id:=2) yQ yP (by decide+kernel) mixed ?_)|(refine ba.intro (id:=6) yO [[],[],[0,1],[0,1,2],[0,1,2,3],[0,1,2,3,4],[0,1,2,3],[0,1,2],[],[]] (by decide+kernel) mixed ?_)|(refine ba.intro (id:=11) yN [[],[],[0,1],[0,1,2],[0,1],[0,1,2,3,4],[0,1,2,3,4,5],[0,1],[],[]] (by decide+kernel) mixed ?_)|skip);simp only [go_sem,sevalprocAttr,oE az,mY az,oD az,lX az,oC az,mh az,mj az,me az,mg az,oE aU,mY aU,oD aU,lX aU,oC aU,mh aU,mj aU,me aU,mg aU,↓reduceIte,reduceCtorEq,yQ,yP,yO,yN]|apply ag<;>(intro h_;(try simp only [h_]);revert h_)|apply zzL|with_reducible intro h_|trivial|simp only [go_sem,ai];omega)
  refine ⟨bS.fn (by simp only [List.all_cons,mY aU];rfl) BA ?_⟩;unfold InI at Ap
  repeat' (first|omega|(try apply ah);simp only [go_sem,sevalprocAttr,oE az,mY az,oD az,lX az,oC az,mh az,mj az,me az,mg az,oE aU,mY aU,oD aU,lX aU,oC aU,mh aU,mj aU,me aU,mg aU]|apply ag<;>(intro h_;(try simp only [h_]);revert h_)|apply zzL|with_reducible intro h_|trivial|simp only [go_sem,ai];omega)
  all_goals first|omega|skip
  refine ⟨_,_,_,?_,?_,⟨k+1,by omega,rfl,rfl,rfl⟩⟩
  ·omega
  ·refine Wk.sub ?_ ?_<;>simp only [go_sem,sevalprocAttr]
   all_goals simp only [lX az,lX aU,and_self,and_true,y78 s sg s.length k cJ]
 obtain rfl:k=s.length:=by omega
 rw [Nat.sub_self,List.replicate_zero,List.append_nil] at*
 repeat' (first|omega|(first|apply ah|(refine ba.intro (id:=2) yQ yP (by decide+kernel) mixed ?_)|(refine ba.intro (id:=6) yO [[],[],[0,1],[0,1,2],[0,1,2,3],[0,1,2,3,4],[0,1,2,3],[0,1,2],[],[]] (by decide+kernel) mixed ?_)|(refine ba.intro (id:=11) yN [[],[],[0,1],[0,1,2],[0,1],[0,1,2,3,4],[0,1,2,3,4,5],[0,1],[],[]] (by decide+kernel) mixed ?_)|skip);simp only [go_sem,sevalprocAttr,oE az,mY az,oD az,lX az,oC az,mh az,mj az,me az,mg az,oE aU,mY aU,oD aU,lX aU,oC aU,mh aU,mj aU,me aU,mg aU,↓reduceIte,reduceCtorEq,yQ,yP,yO,yN]|apply ag<;>(intro h_;(try simp only [h_]);revert h_)|apply zzL|with_reducible intro h_|trivial|simp only [go_sem,ai];omega)
 refine cN.intro (fun n fr H=> ∃k:Nat,k<=m.length/\n=m.length-k/\fr=[(46,I k),(45,I m.length),(44,roI m),(8, .ptr 14 0),(7, .fn 109 [.ptr 1 0]),(6, .ptr 2 0),(3, .ptr 0 0)]/\
  H=[(14, .cells 24 (.lst [.sl 1 6 0 s.length, .sl 1 10 0 m.length,I L])),(10, .cells 3 (.ints (xb m (fun h=>iJ h (rb (h/4) (h % 4))) k))),(6, .cells 3 (.ints (w6 s sg s.length))),(2, .cells 24 (.lst [.nils, .nils,I 0])),(1, .cells 101 (.lst [.fn g1 c1])),(0, .cells 24 (.lst [roI s,roI m,I L]))]) ?_ ?_
 ·refine ⟨_,_,_,?_,0,by omega,rfl,rfl,rfl⟩;refine Wk.sub ?_ ?_<;>simp only [go_sem,sevalprocAttr]
  all_goals simp [xb,lX az]
 rintro n fr H ⟨k,hk,rfl,rfl,rfl⟩;have ml:=JI m (fun h=>iJ h (rb (h/4) (h % 4))) k;by_cases cJ:k<m.length
 ·have qz:=hm.2 k (by omega);have Yf:=KH k (by omega) (by omega);have Pz:=KH (m.getD k 0) qz.1 qz.2;have Yp:=FE (h:=k) (b:=rb (k/4) (k % 4)) (n:=s.length) (by omega) (by omega)
  repeat' (first|omega|(first|apply ah|(refine ba.intro (id:=2) yQ yP (by decide+kernel) mixed ?_)|(refine ba.intro (id:=6) yO [[],[],[0,1],[0,1,2],[0,1,2,3],[0,1,2,3,4],[0,1,2,3],[0,1,2],[],[]] (by decide+kernel) mixed ?_)|(refine ba.intro (id:=11) yN [[],[],[0,1],[0,1,2],[0,1],[0,1,2,3,4],[0,1,2,3,4,5],[0,1],[],[]] (by decide+kernel) mixed ?_)|skip);simp only [go_sem,sevalprocAttr,oE az,mY az,oD az,lX az,oC az,mh az,mj az,me az,mg az,oE aU,mY aU,oD aU,lX aU,oC aU,mh aU,mj aU,me aU,mg aU,↓reduceIte,reduceCtorEq,yQ,yP,yO,yN]|apply ag<;>(intro h_;(try simp only [h_]);revert h_)|apply zzL|with_reducible intro h_|trivial|simp only [go_sem,ai];omega)
  refine ⟨bS.flat rfl (by simp only [go_sem,sevalprocAttr,oE az,mY az,oD az,lX az,oC az,mh az,mj az,me az,mg az,oE aU,mY aU,oD aU,lX aU,oC aU,mh aU,mj aU,me aU,mg aU]) (by simp only [go_sem,sevalprocAttr,oE az,mY az,oD az,lX az,oC az,mh az,mj az,me az,mg az,oE aU,mY aU,oD aU,lX aU,oC aU,mh aU,mj aU,me aU,mg aU]) Yf rfl ?_⟩
  repeat' (first|omega|(try apply ah);simp only [go_sem,sevalprocAttr,oE az,mY az,oD az,lX az,oC az,mh az,mj az,me az,mg az,oE aU,mY aU,oD aU,lX aU,oC aU,mh aU,mj aU,me aU,mg aU]|apply ag<;>(intro h_;(try simp only [h_]);revert h_)|apply zzL|with_reducible intro h_|trivial|simp only [go_sem,ai];omega)
  refine ⟨bS.flat rfl (by simp only [go_sem,sevalprocAttr,oE az,mY az,oD az,lX az,oC az,mh az,mj az,me az,mg az,oE aU,mY aU,oD aU,lX aU,oC aU,mh aU,mj aU,me aU,mg aU]) (by simp only [go_sem,sevalprocAttr,oE az,mY az,oD az,lX az,oC az,mh az,mj az,me az,mg az,oE aU,mY aU,oD aU,lX aU,oC aU,mh aU,mj aU,me aU,mg aU]) Pz rfl ?_⟩
  repeat' (first|omega|(try apply ah);simp only [go_sem,sevalprocAttr,oE az,mY az,oD az,lX az,oC az,mh az,mj az,me az,mg az,oE aU,mY aU,oD aU,lX aU,oC aU,mh aU,mj aU,me aU,mg aU]|apply ag<;>(intro h_;(try simp only [h_]);revert h_)|apply zzL|with_reducible intro h_|trivial|simp only [go_sem,ai];omega)
  refine ⟨_,_,_,?_,?_,⟨k+1,by omega,rfl,rfl,rfl⟩⟩
  ·omega
  ·refine Wk.sub ?_ ?_<;>simp only [go_sem,sevalprocAttr]
   all_goals simp only [lX az,xb,and_self,and_true]
 ·obtain rfl:k=m.length:=by omega
  repeat' (first|omega|(first|apply ah|(refine ba.intro (id:=2) yQ yP (by decide+kernel) mixed ?_)|(refine ba.intro (id:=6) yO [[],[],[0,1],[0,1,2],[0,1,2,3],[0,1,2,3,4],[0,1,2,3],[0,1,2],[],[]] (by decide+kernel) mixed ?_)|(refine ba.intro (id:=11) yN [[],[],[0,1],[0,1,2],[0,1],[0,1,2,3,4],[0,1,2,3,4,5],[0,1],[],[]] (by decide+kernel) mixed ?_)|skip);simp only [go_sem,sevalprocAttr,oE az,mY az,oD az,lX az,oC az,mh az,mj az,me az,mg az,oE aU,mY aU,oD aU,lX aU,oC aU,mh aU,mj aU,me aU,mg aU,↓reduceIte,reduceCtorEq,yQ,yP,yO,yN]|apply ag<;>(intro h_;(try simp only [h_]);revert h_)|apply zzL|with_reducible intro h_|trivial|simp only [go_sem,ai];omega)
  ·exact zzR (by omega)
  ·exact zzR (by omega)
theorem NU (s m:List Int) (L:Int) (g:Nat) (cc:List AV) (ch:Int->Bool) (c x:Int) (h0:0<=c) (h1:c<s.length) (az:cc.all p1=true) (hf:Fn Tryz.prog g (I c::cc) (.bool (ch c))):
  Fn Tryz.prog 107 [I c,I x, .rp (.lst [.fn g cc]) 0, .rp (dgC s m L) 0] (I (tL s ch c)):=by
 unfold tL;refine Fn.intro [.tmp 6] Tryz.func107 rfl rfl (by decide) (by simp [Tryz.ntmps107]) ?_;rw [Tryz.ntmps107]
 repeat' (first|omega|(try apply ah);simp only [go_sem,sevalprocAttr]|apply ag<;>(intro h_;(try simp only [h_]);revert h_)|apply zzL|with_reducible intro h_|trivial|simp only [go_sem,ai];omega)
 refine ⟨aL.fn (by simp only [List.all_cons,mY az];rfl) hf ?_⟩
 repeat' (first|omega|(try apply ah);simp only [go_sem,sevalprocAttr]|apply ag<;>(intro h_;(try simp only [h_]);revert h_)|apply zzL|with_reducible intro h_|trivial|simp only [go_sem,ai];omega)
 all_goals simp_all
theorem NT (g:Nat) (cc:List AV) (ch:Int->Bool) (c:Int) (az:cc.all p1=true) (hf:Fn Tryz.prog g (I c::cc) (.bool (ch c))):
  Fn Tryz.prog 108 [I c, .rp (.lst [.fn g cc]) 0] (I (vJ ch c)):=by
 unfold vJ;refine Fn.intro [.tmp 3] Tryz.func108 rfl rfl (by decide) (by simp [Tryz.ntmps108]) ?_;rw [Tryz.ntmps108]
 repeat' (first|omega|(try apply ah);simp only [go_sem,sevalprocAttr]|apply ag<;>(intro h_;(try simp only [h_]);revert h_)|apply zzL|with_reducible intro h_|trivial|simp only [go_sem,ai];omega)
 refine ⟨aL.fn (by simp only [List.all_cons,mY az];rfl) hf ?_⟩
 repeat' (first|omega|(try apply ah);simp only [go_sem,sevalprocAttr]|apply ag<;>(intro h_;(try simp only [h_]);revert h_)|apply zzL|with_reducible intro h_|trivial|simp only [go_sem,ai];omega)
 all_goals simp_all
theorem yur (s m:List Int) (L:Int) (g:Nat) (cc:List AV) (ch:Int->Bool) (hs:s.length<=1000) (oV:ta s s.length) (hm:pT m s.length) (az:cc.all p1=true) (hf: ∀c:Int,0<=c->c<s.length->Fn Tryz.prog g (I c::cc) (.bool (ch c))):
  Fn Tryz.prog 63 [dgA s m L, .fn g cc] (dgA (HT s ch) (Ld s m ch) L):=by
 have Yw:=y9b s m L 107 108 [.rp (.lst [.fn g cc]) 0, .rp (dgC s m L) 0] [.rp (.lst [.fn g cc]) 0] (fun c _=>tL s ch c) (vJ ch) hs hm rfl rfl
  (fun c x c0 c1 _ _=>NU s m L g cc ch c x c0 c1 az (hf c c0 c1)) (fun c hc=>⟨NT g cc ch c az (hf c (by omega) (by omega)),by
   have:=oV c hc;unfold vJ InI;split<;>rcases this with h|h<;>rw [h]<;>omega⟩)
 refine Fn.intro [.cell 4 24] Tryz.func63 rfl rfl (by decide) (by simp [Tryz.ntmps63]) ?_;rw [Tryz.ntmps63]
 repeat' (first|omega|(try apply ah);simp only [go_sem,sevalprocAttr]|apply ag<;>(intro h_;(try simp only [h_]);revert h_)|apply zzL|with_reducible intro h_|trivial|simp only [go_sem,ai];omega)
 refine ⟨aL.La [0,1] rfl (by simp only [go_sem,sevalprocAttr,me az,mg az,mh az,mj az]) (by simp only [go_sem,sevalprocAttr,me az,mg az,mh az,mj az]) (by simp only [go_sem,sevalprocAttr,me az,mg az,mh az,mj az]) (by simp only [go_sem,sevalprocAttr,me az,mg az,mh az,mj az]) ?_ rfl rfl (aL.fn ?_ Yw ?_)⟩
 ·rfl
 ·rfl
 repeat' (first|omega|(try apply ah);simp only [go_sem,sevalprocAttr]|apply ag<;>(intro h_;(try simp only [h_]);revert h_)|apply zzL|with_reducible intro h_|trivial|simp only [go_sem,ai];omega)
theorem yus (x c:Int):Fn Tryz.prog 143 [I x, .rp (.lst [I c]) 0] (.bool (x==c)):=by
 refine Fn.intro [.tmp 3] Tryz.func143 rfl rfl (by decide) (by simp [Tryz.ntmps143]) ?_;rw [Tryz.ntmps143]
 repeat' (first|omega|(try apply ah);simp only [go_sem,sevalprocAttr]|apply ag<;>(intro h_;(try simp only [h_]);revert h_)|apply zzL|with_reducible intro h_|trivial|simp only [go_sem,ai];omega)
abbrev yabh:AV:= .agg [.nils, .nils,I 0]
attribute [go_sem] yabh
theorem y18 (s m:List Int) (L c:Int) (h0:0<=c) (h1:c<s.length) (hv:bf s m L=true):Fn Tryz.prog 96 [dgA s m L,I c] (.tup [dgA (HT s (· ==c)) (Ld s m (· ==c)) L,I 0]):=by
 have v1:=bV hv;have Az:=v1.s64;have hf:=yur s m L 143 [.rp (.lst [I c]) 0] (· ==c) (by omega) v1.sg v1.dw.ok rfl (fun x _ _=>yus x c);refine Fn.intro [.cell 4 24, .tmp 5] Tryz.func96 rfl rfl (by decide) (by simp [Tryz.ntmps96]) ?_;rw [Tryz.ntmps96]
 repeat' (first|omega|(try apply ah);simp only [go_sem,sevalprocAttr]|apply ag<;>(intro h_;(try simp only [h_]);revert h_)|apply zzL|with_reducible intro h_|trivial|simp only [go_sem,ai];omega)
 refine ⟨aL.fn rfl (vd s m L) ?_⟩;rw [hv]
 repeat' (first|omega|(try apply ah);simp only [go_sem,sevalprocAttr]|apply ag<;>(intro h_;(try simp only [h_]);revert h_)|apply zzL|with_reducible intro h_|trivial|simp only [go_sem,ai];omega)
 refine ⟨aL.La [1] rfl (by simp only [go_sem,sevalprocAttr]) (by simp only [go_sem,sevalprocAttr]) (by simp only [go_sem,sevalprocAttr]) (by simp only [go_sem,sevalprocAttr]) rfl rfl rfl (aL.fn rfl hf ?_)⟩
 repeat' (first|omega|(try apply ah);simp only [go_sem,sevalprocAttr]|apply ag<;>(intro h_;(try simp only [h_]);revert h_)|apply zzL|with_reducible intro h_|trivial|simp only [go_sem,ai];omega)
theorem y19 (l:List Int) (h:0<l.length) (hb:l.length<=100000):uX Tryz.prog 141 [roI l] (.sl 1 0 0 l.length) [(0, .cells 3 (.ints l))]:=by
 refine uX.intro [.tmp 2] Tryz.func141 rfl rfl (by decide) (by simp [Tryz.ntmps141]) ?_;rw [Tryz.ntmps141]
 repeat' (first|omega|(try apply ah);simp only [go_sem,sevalprocAttr]|apply ag<;>(intro h_;(try simp only [h_]);revert h_)|apply zzL|with_reducible intro h_|trivial|simp only [go_sem,ai];omega)
end Go.Proofs.YtjpbeacamoijhaaGreatDoor
