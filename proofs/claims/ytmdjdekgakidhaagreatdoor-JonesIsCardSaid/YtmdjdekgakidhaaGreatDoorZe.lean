/- Layer 12: polynomials: terms. -/
import Derived.Test.YtmdjdekgakidhaaGreatDoorZa
import Derived.Test.YtmdjdekgakidhaaGreatDoorZc
import Derived.Test.YtmdjdekgakidhaaGreatDoorTx3
import Derived.Test.YtmdjdekgakidhaaGreatDoorZd
import Derived.Shelf.Spec.BitsCarry
import Derived.WalkKit
import Derived.BigCall
import Derived.Laws.Rows
import Derived.Lib.SmallJoins
import Derived.Test.YtmdjdekgakidhaaGreatDoorSh
import Derived.Test.YtmdjdekgakidhaaGreatDoorTy
set_option linter.unusedSimpArgs false
set_option linter.unusedVariables false
namespace Go.Proofs.YtmdjdekgakidhaaGreatDoor
open Go Go.RowKit
set_option maxRecDepth 100000
set_option maxHeartbeats 4000000
def dr (p:List (Int×Int)):List AV:=p.flatMap fun t=>[I t.1,I t.2]
abbrev tmA (p:List (Int×Int)):AV:= .ro 2 p.length (.lst (dr p))
abbrev plA (b:Bool) (p:List (Int×Int)):AV:= .agg [.bool b,tmA p]
attribute [go_sem] tmA plA
theorem ya9 (p:List (Int×Int)):(dr p).length=2*p.length:=by
 unfold dr;induction p with
 |nil=>rfl
 |cons x p ih=>simp [ih];omega
theorem kJ (p:List (Int×Int)) (i:Nat) (h:i<p.length):(dr p).getD (i*2) .any=I (p.getD i (0,0)).1:=by
 unfold dr;induction p generalizing i with
 |nil=>simp at h
 |cons x p ih=>
  cases i with
  |zero=>simp
  |succ i=>
   have:=ih i (by simpa using h)
   simp only [List.flatMap_cons,List.getD_cons_succ];rw [show (i+1)*2=i*2+1+1 by omega];simpa using this
theorem nP (p:List (Int×Int)) (i:Nat) (h:i<p.length):(dr p).getD (i*2+1) .any=I (p.getD i (0,0)).2:=by
 unfold dr;induction p generalizing i with
 |nil=>simp at h
 |cons x p ih=>
  cases i with
  |zero=>simp
  |succ i=>
   have:=ih i (by simpa using h)
   simp only [List.flatMap_cons,List.getD_cons_succ];rw [show (i+1)*2+1=i*2+1+1+1 by omega];simpa using this
theorem wD (v l:Int) (h0:0<=l) (h1:l<=9000000000000000000):Fn Tryz.prog 84 [I v,I l] (.bool (gH v l)):=by
 unfold gH;refine Fn.intro [.tmp 4] Tryz.func84 rfl rfl (by decide) (by simp [Tryz.ntmps84]) ?_;rw [Tryz.ntmps84]
 repeat' (first|omega|(try apply ag);simp only [go_sem,sevalprocAttr]|apply ae<;>(intro h_;(try simp only [h_]);revert h_)|apply And.intro|with_reducible intro h_|trivial|simp only [go_sem,ah];omega)
 all_goals simp_all
 all_goals omega
theorem zM {p:List (Int×Int)} {x:AV} (h:x∈dr p): ∃n,x=I n:=by
 unfold dr at h;obtain ⟨t,_,ht⟩:=List.mem_flatMap.1 h;simp only [List.mem_cons,zzH,or_false] at ht;rcases ht with e|e<;>exact ⟨_,e⟩
theorem Dx (p:List (Int×Int)):(dr p).all p1=true:=List.all_eq_true.2 fun x hx=>by obtain ⟨n,rfl⟩:=zM hx;rfl
theorem yaj (H:Hp) (p:List (Int×Int)):(dr p).all (s3 H)=true:=List.all_eq_true.2 fun x hx=>by obtain ⟨n,rfl⟩:=zM hx;rfl
theorem yade (p:List (Int×Int)):(dr p).all ybw=true:=List.all_eq_true.2 fun x hx=>by obtain ⟨n,rfl⟩:=zM hx;rfl
theorem yaax (i:Nat) (p:List (Int×Int)):(dr p).map (cutV i)=dr p:=by
 conv=>rhs;rw [←List.map_id (dr p)]
 exact List.map_congr_left fun x hx=>by obtain ⟨n,rfl⟩:=zM hx;rfl
theorem y6z (H:Hp) (n:Nat) (p:List (Int×Int)):(dr p).map (snap H (n+1))=dr p:=NN (Dx p) H n
theorem yk0 (H:Hp) (n:Nat) (p:List (Int×Int)):(∀x∈dr p,c9 H (n+1) x)=True:=Pd (Dx p) H n
theorem ycl (H:Hp) (n:Nat) (p:List (Int×Int)):(dr p).map (aI H (n+1))=dr p:=Sr (Dx p) H n
theorem yb2 (H:Hp) (n:Nat) (p:List (Int×Int)):(∀x∈dr p,aP H (n+1) x)=True:=NM (Dx p) H n
theorem wC (p:List (Int×Int)) (e c:Int):dr p++[AV.int .i64 e,AV.int .i64 c]=dr (p++[(e,c)]):=by simp [dr]
attribute [go_sem] yaj yade yaax y6z yk0 ycl yb2 ya9
theorem yaay (fr:Fr):unl (lft fr)=fr:=by
 induction fr with
 |nil=>rfl
 |cons q r ih=>
  obtain ⟨t,x⟩:=q;simp only [lft,unl];rw [if_pos (by omega),ih,Nat.add_sub_cancel]
theorem y60 (i:Nat) (fr:Fr):fcut i (lft fr)=lft (fcut i fr):=by
 induction fr with
 |nil=>rfl
 |cons q r ih=>obtain ⟨t,x⟩:=q;simp only [lft,fcut,ih]
attribute [go_sem] yaay y60
theorem At {p:List (Int×Int)} (h:sz p) {i:Nat} (hi:i<p.length): -1125899906842624<=(p.getD i (0,0)).2/\(p.getD i (0,0)).2<=1125899906842624:=h _ (by simp [hi])
def tf (p:List (Int×Int)):Prop:= ∀k,k<p.length-> -4611686018427387904<=(p.getD k (0,0)).1/\(p.getD k (0,0)).1<=4611686018427387904/\ -4611686018427387904<=(p.getD k (0,0)).2/\(p.getD k (0,0)).2<=4611686018427387904
def fD (name:List UInt8) (p:List (Int×Int)):List UInt8:=if p.length=0 then [48] else txtN name p p.length
theorem Wb (name:ByteArray):Fn Tryz.prog 22 [plA false [], .str name] (.str ⟨#[48]⟩):=by
 refine Fn.intro [.tmp 4] Tryz.func22 rfl rfl (by decide) (by simp [Tryz.ntmps22]) ?_;rw [Tryz.ntmps22]
 repeat' (first|omega|(try apply ag);simp only [go_sem,sevalprocAttr]|apply ae<;>(intro h_;(try simp only [h_]);revert h_)|apply And.intro|with_reducible intro h_|trivial|simp only [go_sem,ah];omega)
theorem Wa (p:List (Int×Int)) (name:ByteArray) (jt:0<p.length) (hr:tf p) (hn:name.size<=1000) (iI:p.length<=1000000):
  Fn Tryz.prog 22 [plA false p, .str name] (.str ⟨(txtN name.data.toList p p.length).toArray⟩):=by
 refine ⟨⟨_,Tryz.func22,rfl,by decide⟩,fun w Mx vs gn hl hv=>?_⟩
 match vs,hl with
 |[v0,v1],_=>
  have h0:=hv 0 v0 _ rfl rfl;have h1:=(hv 1 v1 _ rfl rfl).bW;subst h1;obtain ⟨us,rfl,wQ,hu⟩:=h0.aL
  match us,wQ with
  |[u0,u1],_=>
   have k0:=(hu 0 u0 _ rfl rfl).bool_inv;have k1:=hu 1 u1 _ rfl rfl;subst k0;cases k1 with
   |ro _ _ _ ad cap x hlen iS _ eO hx=>
    obtain ⟨a,rfl,hb,_,hj⟩:=eO jt;have b5:(Cs.lst (dr p)).len=2*p.length:=ya9 p;refine (WZ p name a cap w jt gn.1 hb (fun k hk=>?_) hr hn iI).mono ?_
    ·have e0:=hx (k*2) (by omega);have e1:=hx (k*2+1) (by omega);rw [show (Cs.lst (dr p)).get (k*2)=(dr p).getD (k*2) .any from rfl,kJ p k hk] at e0;rw [show (Cs.lst (dr p)).get (k*2+1)=(dr p).getD (k*2+1) .any from rfl,nP p k hk] at e1;refine ⟨?_,?_⟩
     ·rw [hj _ (by omega),e0.an]
     ·rw [hj _ (by omega),e1.an]
    ·rintro e w' ⟨rfl,ky⟩;exact ⟨_,rfl,ky, .str _⟩
theorem DO (p:List (Int×Int)) (name:ByteArray) (hr:tf p) (hn:name.size<=1000) (iI:p.length<=1000000):
  Fn Tryz.prog 22 [plA false p, .str name] (.str ⟨(fD name.data.toList p).toArray⟩):=by
 unfold fD
 split
 ·obtain rfl:p=[]:=List.eq_nil_of_length_eq_zero (by assumption);exact Wb name
 ·exact Wa p name (by omega) hr hn iI
end Go.Proofs.YtmdjdekgakidhaaGreatDoor
namespace Go.Proofs.YtmdjdekgakidhaaGreatDoor
namespace Sp
def tmsF:Int->List Int->List (Int×Int)
 |_,[]=>[]
 |i,a::q=>if a=0 then tmsF (i+1) q else (i,a)::tmsF (i+1) q
theorem mq: ∀(q:List Int) (i:Int),(tmsF i q).length<=q.length
 |[],_=>zzA _
 |a::q,i=>by unfold tmsF;have:=mq q (i+1);split<;>simp<;>omega
end Sp
open Go Go.RowKit
set_option maxRecDepth 100000
set_option maxHeartbeats 8000000
theorem ni (a b:List UInt8):(⟨a.toArray⟩:ByteArray)++⟨b.toArray⟩=⟨(a++b).toArray⟩:=by
 apply ByteArray.ext;simp
theorem vV (a:List UInt8):(⟨a.toArray⟩:ByteArray).size=a.length:=by simp [ByteArray.size]
theorem V9: ∀k:Fin 10,(⟨#[48,49,50,51,52,53,54,55,56,57]⟩:ByteArray).extract k.val (k.val+1)=⟨#[UInt8.ofNat (48+k.val)]⟩:=by decide+kernel
theorem Nx: ∀u:Nat,u<=9223372036854775807->Fn Tryz.prog 65 [I u] (.str ⟨(Lib.decDigits u).toArray⟩):=fun u=>by
 induction u using Nat.strongRecOn with
 |_ u ih=>
  intro hu;have b0:decide ((u:Int)<0)=false:=by simp
  have e1:(u:Int).tmod 10=((u % 10:Nat):Int):=by rw [zU (by omega)];omega
  have e2:(u:Int).tdiv 10=((u/10:Nat):Int):=by rw [sG (by omega)];omega
  have e3:(((u % 10:Nat):Int)+1).toNat=u % 10+1:=by omega
  have e4:=V9 ⟨u % 10,by omega⟩;simp only at e4;have TO:(⟨#[48,49,50,51,52,53,54,55,56,57]⟩:ByteArray).size=10:=rfl;by_cases h:u<10
  ·have b1:decide ((u:Int)<10)=true:=by simp;omega
   rw [Lib.decDigits,dif_pos h];refine Fn.intro [.tmp 2] Tryz.func65 rfl rfl (by decide) (by simp [Tryz.ntmps65]) ?_;rw [Tryz.ntmps65]
   repeat' (first|omega|(try apply ag);simp only [go_sem,sevalprocAttr,b0,b1,e1,e2,e3,e4,TO,zzC]|apply ae<;>(intro h_;(try simp only [h_]);revert h_)|apply And.intro|with_reducible intro h_|trivial|simp only [go_sem,ah];omega)
   all_goals (rw [Nat.mod_eq_of_lt h])
  ·have b1:decide ((u:Int)<10)=false:=by simp;omega
   have hr:=ih (u/10) (by omega) (by omega);have hl:=Lib.itoa_length_le ((u/10:Nat):Int) (by omega) (by omega);rw [Lib.itoa_nonneg] at hl;rw [Lib.decDigits,dif_neg h];have KG:=vV (Lib.decDigits (u/10));have ap:=ni (Lib.decDigits (u/10)) [UInt8.ofNat (48+u % 10)];have KF:(⟨#[UInt8.ofNat (48+u % 10)]⟩:ByteArray).size=1:=rfl
   refine Fn.intro [.tmp 2] Tryz.func65 rfl rfl (by decide) (by simp [Tryz.ntmps65]) ?_;rw [Tryz.ntmps65]
   repeat' (first|omega|(try apply ag);simp only [go_sem,sevalprocAttr,b0,b1,e1,e2,e3,e4,TO,zzC]|apply ae<;>(intro h_;(try simp only [h_]);revert h_)|apply And.intro|with_reducible intro h_|trivial|simp only [go_sem,ah];omega)
   refine ⟨au.fn rfl hr ?_⟩
   repeat' (first|omega|(try apply ag);simp only [go_sem,sevalprocAttr,b0,b1,KG,KF,ap]|apply ae<;>(intro h_;(try simp only [h_]);revert h_)|apply And.intro|with_reducible intro h_|trivial|simp only [go_sem,ah];omega)
   all_goals exact ap
theorem Ih (n:Int) (h0: -9223372036854775807<=n) (h1:n<=9223372036854775807):Fn Tryz.prog 65 [I n] (.str ⟨(Lib.itoa n).toArray⟩):=by
 by_cases h:n<0
 ·have hr:=Nx n.natAbs (by omega);rw [show ((n.natAbs:Nat):Int)=0-n by omega] at hr;have b0:decide (n<0)=true:=by simpa using h
  have hl:=Lib.itoa_length_le ((n.natAbs:Nat):Int) (by omega) (by omega);rw [Lib.itoa_nonneg] at hl;have KG:=vV (Lib.decDigits n.natAbs);have KF:(⟨#[45]⟩:ByteArray).size=1:=rfl;have ap:=ni [45] (Lib.decDigits n.natAbs);unfold Lib.itoa;rw [if_pos h];refine Fn.intro [.tmp 2] Tryz.func65 rfl rfl (by decide) (by simp [Tryz.ntmps65]) ?_;rw [Tryz.ntmps65]
  repeat' (first|omega|(try apply ag);simp only [go_sem,sevalprocAttr,b0]|apply ae<;>(intro h_;(try simp only [h_]);revert h_)|apply And.intro|with_reducible intro h_|trivial|simp only [go_sem,ah];omega)
  refine ⟨au.fn rfl hr ?_⟩
  repeat' (first|omega|(try apply ag);simp only [go_sem,sevalprocAttr,b0,KG,KF,ap]|apply ae<;>(intro h_;(try simp only [h_]);revert h_)|apply And.intro|with_reducible intro h_|trivial|simp only [go_sem,ah];omega)
  all_goals exact ap
 ·have hr:=Nx n.toNat (by omega);rw [show ((n.toNat:Nat):Int)=n by omega] at hr;unfold Lib.itoa;rw [if_neg h];exact hr
abbrev rpA (p:List (Int×Int)):AV:= .agg [tmA p, .bool false]
attribute [go_sem] rpA
theorem Pq {nm:List UInt8} {p:List (Int×Int)} (hn:nm.length<=1000) (hr:tf p): ∀i,i<=p.length->(txtN nm p i).length<=2000*i
 |0,_=>by simp [txtN]
 |i+1,h=>by
  have h1:=Pq hn hr i (by omega);have h2:=HS (nm:=nm) (k:=i) hn (hr i (by omega));simp only [txtN,zzF];omega
theorem Hg (P:Prop) [Decidable P]:(decide P=true/\P=True)\/(decide P=false/\P=False):=by
 by_cases h:P
 ·exact .inl ⟨decide_eq_true h,eq_true h⟩
 ·exact .inr ⟨decide_eq_false h,eq_false h⟩
theorem yw (a b:Int):((a==b)=true/\(a=b)=True)\/((a==b)=false/\(a=b)=False):=Hg (a=b)
theorem WY (name:ByteArray):Fn Tryz.prog 23 [rpA [], .str name] (.str ⟨#[48]⟩):=by
 refine Fn.intro [.tmp 4] Tryz.func23 rfl rfl (by decide) (by simp [Tryz.ntmps23]) ?_;rw [Tryz.ntmps23]
 repeat' (first|omega|(try apply ag);simp only [go_sem,sevalprocAttr]|apply ae<;>(intro h_;(try simp only [h_]);revert h_)|apply And.intro|with_reducible intro h_|trivial|simp only [go_sem,ah];omega)
theorem WX (p:List (Int×Int)) (nm:List UInt8) (jt:0<p.length) (hr:tf p) (hn:nm.length<=1000) (iI:p.length<=1000):
  Fn Tryz.prog 23 [rpA p, .str ⟨nm.toArray⟩] (.str ⟨(txtN nm p p.length).toArray⟩):=by
 have bp:((p.length:Int)==0)=false:=by rw [beq_eq_false_iff_ne];omega
 refine Fn.intro [.tmp 4] Tryz.func23 rfl rfl (by decide) (by simp [Tryz.ntmps23]) ?_;rw [Tryz.ntmps23]
 repeat' (first|omega|(try apply ag);simp only [go_sem,sevalprocAttr,bp]|apply ae<;>(intro h_;(try simp only [h_]);revert h_)|apply And.intro|with_reducible intro h_|trivial|simp only [go_sem,ah];omega)
 refine aR.intro (fun n fr H=> ∃i:Nat,i<=p.length/\n=p.length-i/\fr=[(6,I i),(5, .str ⟨(txtN nm p i).toArray⟩),(2, .ptr 0 0),(1, .str ⟨nm.toArray⟩)]/\H=[(0, .cells 49 (.lst [tmA p, .bool false]))]) ?_ ?_
 ·refine ⟨_,_,_,?_,0,by omega,rfl,rfl,rfl⟩;refine Wk.sub ?_ ?_<;>simp only [go_sem,sevalprocAttr]
  all_goals rfl
 rintro n fr H ⟨i,hi,rfl,rfl,rfl⟩;by_cases bH:i<p.length
 ·have t0:=kJ p i bH;have t1:=nP p i bH;have bi:decide ((i:Int)<p.length)=true:=by simp;omega
  have mS:=hr i bH;have sW:=Pq hn hr i hi;have rz:txtN nm p (i+1)=txtN nm p i++iM nm i (p.getD i (0,0)).1 (p.getD i (0,0)).2:=rfl;have hE:=Ih (p.getD i (0,0)).1 (by omega) (by omega);have lE:=Lib.itoa_length_le (p.getD i (0,0)).1 (by omega) (by omega);have hZ:=Ih (p.getD i (0,0)).2 (by omega) (by omega);have lZ:=Lib.itoa_length_le (p.getD i (0,0)).2 (by omega) (by omega)
  have hY:=Ih (0-(p.getD i (0,0)).2) (by omega) (by omega);have lY:=Lib.itoa_length_le (0-(p.getD i (0,0)).2) (by omega) (by omega);generalize (p.getD i (0,0)).1=e at*;generalize (p.getD i (0,0)).2=c at*;generalize txtN nm p i=acc at*;unfold iM at rz;clear hr;rcases Hg (c<0) with ⟨b1,d1⟩|⟨b1,d1⟩
  ·have d2:=d1;rcases yw (0-c) 1 with ⟨b6,d6⟩|⟨b6,d6⟩
   all_goals rcases yw e 0 with ⟨b3,d3⟩|⟨b3,d3⟩
   all_goals rcases yw e 1 with ⟨b4,d4⟩|⟨b4,d4⟩
   all_goals (simp only [d1,d2,d6,d3,d4,if_true,if_false,ne_eq,not_true_eq_false,not_false_eq_true,and_true,and_false,or_true,true_or,or_self,List.nil_append,List.append_nil] at rz)
   all_goals (repeat' (first|omega|(try apply ag);simp only [go_sem,sevalprocAttr,t0,t1,bi,b1,b6,b3,b4,bne,ni,vV]|apply ae<;>(intro h_;(try simp only [h_]);revert h_)|apply And.intro|with_reducible intro h_|trivial|simp only [go_sem,ah];omega))
   all_goals first|refine ⟨au.fn rfl hY ?_⟩|refine ⟨au.fn rfl hE ?_⟩|skip
   all_goals (repeat' (first|omega|(try apply ag);simp only [go_sem,sevalprocAttr,t0,t1,bi,b1,b6,b3,b4,bne,ni,vV]|apply ae<;>(intro h_;(try simp only [h_]);revert h_)|apply And.intro|with_reducible intro h_|trivial|simp only [go_sem,ah];omega))
   all_goals first|refine ⟨au.fn rfl hE ?_⟩|skip
   all_goals (repeat' (first|omega|(try apply ag);simp only [go_sem,sevalprocAttr,t0,t1,bi,b1,b6,b3,b4,bne,ni,vV]|apply ae<;>(intro h_;(try simp only [h_]);revert h_)|apply And.intro|with_reducible intro h_|trivial|simp only [go_sem,ah];omega))
   all_goals (refine ⟨_,_,_,?_,?_,⟨i+1,by omega,rfl,rfl,rfl⟩⟩)
   all_goals first|omega|skip
   all_goals (refine Wk.sub ?_ ?_<;>simp only [go_sem,sevalprocAttr])
   all_goals (rw [rz];try simp)
  ·rcases Hg ((0:Int)<i) with ⟨b2,d2⟩|⟨b2,d2⟩
   all_goals (rw [show ((0:Int)<(i:Int))=(0<i) by simp] at d2)
   all_goals rcases yw c 1 with ⟨b6,d6⟩|⟨b6,d6⟩
   all_goals rcases yw e 0 with ⟨b3,d3⟩|⟨b3,d3⟩
   all_goals rcases yw e 1 with ⟨b4,d4⟩|⟨b4,d4⟩
   all_goals (simp only [d1,d2,d6,d3,d4,if_true,if_false,ne_eq,not_true_eq_false,not_false_eq_true,and_true,and_false,or_true,true_or,or_self,List.nil_append,List.append_nil] at rz)
   all_goals (repeat' (first|omega|(try apply ag);simp only [go_sem,sevalprocAttr,t0,t1,bi,b1,b6,b3,b4,bne,ni,vV,b2]|apply ae<;>(intro h_;(try simp only [h_]);revert h_)|apply And.intro|with_reducible intro h_|trivial|simp only [go_sem,ah];omega))
   all_goals first|refine ⟨au.fn rfl hZ ?_⟩|refine ⟨au.fn rfl hE ?_⟩|skip
   all_goals (repeat' (first|omega|(try apply ag);simp only [go_sem,sevalprocAttr,t0,t1,bi,b1,b6,b3,b4,bne,ni,vV,b2]|apply ae<;>(intro h_;(try simp only [h_]);revert h_)|apply And.intro|with_reducible intro h_|trivial|simp only [go_sem,ah];omega))
   all_goals first|refine ⟨au.fn rfl hE ?_⟩|skip
   all_goals (repeat' (first|omega|(try apply ag);simp only [go_sem,sevalprocAttr,t0,t1,bi,b1,b6,b3,b4,bne,ni,vV,b2]|apply ae<;>(intro h_;(try simp only [h_]);revert h_)|apply And.intro|with_reducible intro h_|trivial|simp only [go_sem,ah];omega))
   all_goals (refine ⟨_,_,_,?_,?_,⟨i+1,by omega,rfl,rfl,rfl⟩⟩)
   all_goals first|omega|skip
   all_goals (refine Wk.sub ?_ ?_<;>simp only [go_sem,sevalprocAttr])
   all_goals (rw [rz];try simp)
 ·obtain rfl:i=p.length:=by omega
  have bi:decide ((p.length:Int)<p.length)=false:=by simp
  repeat' (first|omega|(try apply ag);simp only [go_sem,sevalprocAttr,bi]|apply ae<;>(intro h_;(try simp only [h_]);revert h_)|apply And.intro|with_reducible intro h_|trivial|simp only [go_sem,ah];omega)
def qc:List (List Nat):=[[45,46,47,48,49,50,51,52,53],[45,46,47,48,49,50,51,52,53],[43,44,46,48,49,50,51],[43,44,45,48,49,50,51],[43,44,48,49,50,51],[43,44,45,46,47,49],[43,44,45,46,47,48],[43,44,45,46,47],[43,44,45,46,47],[43,44],[43,44],[],[],[]]
def qb:List (List Nat):=[[],[],[0,1],[0,1,2],[0,1],[0,1,2,3,4],[0,1,2,3,4,5],[0,1,2,3,4],[0,1,2,3,4],[0,1],[0,1],[],[],[]]
theorem Pp: ∀(q:List Int) (i:Int) (a:Int),Sp.tmsF i (q++[a])=Sp.tmsF i q++(if a=0 then [] else [(i+q.length,a)])
 |[],i,a=>by simp only [List.nil_append,Sp.tmsF,List.length_nil];split<;>simp
 |b::q,i,a=>by
  have:=Pp q (i+1) a
  simp only [List.cons_append,Sp.tmsF,zzG];rw [this];rw [show i+1+(q.length:Int)=i+((q.length+1:Nat):Int) by omega]
  split<;>rfl
theorem C3 (i j k:Nat) (p:List (Int×Int)):(dr p).map (swV i j (k+1))=dr p:=by
 rw [List.map_congr_left (g:=id) (fun x hx=>by obtain ⟨n,rfl⟩:=zM hx;rfl),List.map_id]
theorem DN (lo:Int) (iv: -100000<=lo/\lo<=100000) (q:List Int) (hq: ∀x∈q,-1125899906842624<=x/\x<=1125899906842624) (yV:q.length<=100):
  Fn Tryz.prog 69 [I lo,roI q] (rpA (Sp.tmsF lo q)):=by
 have Ym: ∀i,-1125899906842624<=q.getD i 0/\q.getD i 0<=1125899906842624:=fun i=>by
  rw [zzB];cases e:q[i]? with
  |none=>simp
  |some x=>exact hq x (List.mem_of_getElem? e)
 refine Fn.ai [.cell 4 49] Tryz.func69 rfl rfl (by decide) (by simp [Tryz.ntmps69]) ?_;rw [Tryz.ntmps69]
 repeat' (first|omega|(try apply ag);simp only [go_sem,sevalprocAttr]|apply ae<;>(intro h_;(try simp only [h_]);revert h_)|apply And.intro|with_reducible intro h_|trivial|simp only [go_sem,ah];omega)
 refine aR.intro (fun n fr H=> ∃i:Nat,i<=q.length/\n=q.length-i/\fr=[(6,I i),(5, .ptr 1 0),(4, .ptr 0 0),(1,roI q),(0,I lo)]/\((Sp.tmsF lo (q.take i)=[]/\H=[(1, .cells 49 (.lst [.nils, .bool false])),(0, .cells 49 (.lst [.nils, .bool false]))])\/H=[(3, .cells 98 (.lst (dr (Sp.tmsF lo (q.take i))))),(1, .cells 49 (.lst [.sl 2 3 0 (Sp.tmsF lo (q.take i)).length, .bool false])),(0, .cells 49 (.lst [.nils, .bool false]))])) ?_ ?_
 ·refine ⟨_,_,_,?_,0,by omega,rfl,rfl, .inl ⟨rfl,rfl⟩⟩;refine Wk.sub ?_ ?_<;>simp only [go_sem,sevalprocAttr]
 rintro n fr H ⟨i,hi,rfl,rfl,cC⟩;have hg:=Ym i;have Fa:=Sp.mq (q.take i) lo;have sW:(q.take i).length=i:=by rw [List.length_take];omega
 by_cases bH:i<q.length
 ·have bi:decide ((i:Int)<q.length)=true:=by simp;omega
  have BD:q.take (i+1)=q.take i++[q.getD i 0]:=by rw [List.take_add_one,zzB,zzI bH];rfl
  have gO:=Pp (q.take i) lo (q.getD i 0);rw [←BD,sW] at gO;have c1:decide (q.getD i 0< -1125899906842624)=false:=by rw [decide_eq_false_iff_not];omega
  have c2:decide (1125899906842624<q.getD i 0)=false:=by rw [decide_eq_false_iff_not];omega
  have c3:decide (lo+(i:Int)< -1048576)=false:=by rw [decide_eq_false_iff_not];omega
  have c4:decide (1048576<lo+(i:Int))=false:=by rw [decide_eq_false_iff_not];omega
  by_cases h0:q.getD i 0=0
  ·have b0:(q.getD i 0==0)=true:=by simpa using h0
   rw [if_pos h0,List.append_nil] at gO;rcases cC with ⟨bx,rfl⟩|rfl
   ·repeat' (first|omega|(first|apply ag|(refine aj.intro (id:=8) qc qb (by decide+kernel) mixed ?_)|skip);simp only [go_sem,sevalprocAttr,bi,b0,↓reduceIte,reduceCtorEq,qc,qb]|apply ae<;>(intro h_;(try simp only [h_]);revert h_)|apply And.intro|with_reducible intro h_|trivial|simp only [go_sem,ah];omega)
    refine ⟨_,_,_,?_,?_,⟨i+1,by omega,rfl,rfl, .inl ⟨by rw [gO];exact bx,rfl⟩⟩⟩
    ·omega
    ·refine Wk.sub ?_ ?_<;>simp only [go_sem,sevalprocAttr]
   ·repeat' (first|omega|(first|apply ag|(refine aj.intro (id:=8) qc qb (by decide+kernel) mixed ?_)|skip);simp only [go_sem,sevalprocAttr,bi,b0,↓reduceIte,reduceCtorEq,qc,qb]|apply ae<;>(intro h_;(try simp only [h_]);revert h_)|apply And.intro|with_reducible intro h_|trivial|simp only [go_sem,ah];omega)
    refine ⟨_,_,_,?_,?_,⟨i+1,by omega,rfl,rfl, .inr rfl⟩⟩
    ·omega
    ·rw [gO];refine Wk.sub ?_ ?_<;>simp only [go_sem,sevalprocAttr]
  ·have b0:(q.getD i 0==0)=false:=by simpa using h0
   rw [if_neg h0] at gO;rcases cC with ⟨bx,rfl⟩|rfl
   ·rw [bx,List.nil_append] at gO;have e5:dr [(lo+(i:Int),q.getD i 0)]=[I (lo+i),I (q.getD i 0)]:=rfl
    repeat' (first|omega|(first|apply ag|(refine aj.intro (id:=8) qc qb (by decide+kernel) mixed ?_)|skip);simp only [go_sem,sevalprocAttr,bi,b0,c1,c2,c3,c4,↓reduceIte,reduceCtorEq,qc,qb]|apply ae<;>(intro h_;(try simp only [h_]);revert h_)|apply And.intro|with_reducible intro h_|trivial|simp only [go_sem,ah];omega)
    all_goals (refine ⟨_,_,_,?_,?_,⟨i+1,by omega,rfl,rfl, .inr rfl⟩⟩)
    all_goals first|omega|skip
    all_goals rw [gO]
    all_goals (refine Wk.nS 3 13 (fr1:=[(6,I ((i+1:Nat):Int)),(5, .ptr 1 0),(4, .ptr 0 0),(1,roI q),(0,I lo)]) (H1:=[(13, .cells 98 (.lst (dr [(lo+(i:Int),q.getD i 0)]))),(1, .cells 49 (.lst [.sl 2 13 0 [(lo+(i:Int),q.getD i 0)].length, .bool false])),(0, .cells 49 (.lst [.nils, .bool false]))]) rfl rfl rfl rfl ?_ ?_<;>(simp only [go_sem,sevalprocAttr,e5]))
   ·have e5:=wC (Sp.tmsF lo (q.take i)) (lo+i) (q.getD i 0);have e6:(Sp.tmsF lo (q.take i)++[(lo+(i:Int),q.getD i 0)]).length=(Sp.tmsF lo (q.take i)).length+1:=by simp
    have e7:=ya9 (Sp.tmsF lo (q.take i))
    repeat' (first|omega|(first|apply ag|(refine aj.intro (id:=8) qc qb (by decide+kernel) mixed ?_)|skip);simp only [go_sem,sevalprocAttr,bi,b0,c1,c2,c3,c4,↓reduceIte,reduceCtorEq,qc,qb]|apply ae<;>(intro h_;(try simp only [h_]);revert h_)|apply And.intro|with_reducible intro h_|trivial|simp only [go_sem,ah];omega)
    all_goals (refine ⟨_,_,_,?_,?_,⟨i+1,by omega,rfl,rfl, .inr rfl⟩⟩)
    all_goals first|omega|skip
    all_goals rw [gO]
    all_goals (refine Wk.nS 3 15 (fr1:=[(6,I ((i+1:Nat):Int)),(5, .ptr 1 0),(4, .ptr 0 0),(1,roI q),(0,I lo)]) (H1:=[(15, .cells 98 (.lst (dr (Sp.tmsF lo (q.take i)++[(lo+(i:Int),q.getD i 0)])))),(1, .cells 49 (.lst [.sl 2 15 0 (Sp.tmsF lo (q.take i)++[(lo+(i:Int),q.getD i 0)]).length, .bool false])),(0, .cells 49 (.lst [.nils, .bool false]))]) rfl (by simp only [swH,swO,List.map_cons,List.map_nil,C3];rfl) rfl (by simp only [swH,swO,List.map_cons,List.map_nil,C3];rfl) ?_ ?_<;>(simp only [go_sem,sevalprocAttr,e5,e6]))
 ·obtain rfl:i=q.length:=by omega
  have bi:decide ((q.length:Int)<q.length)=false:=by simp
  rw [List.take_length] at cC Fa;rcases cC with ⟨bx,rfl⟩|rfl
  ·rw [bx]
   repeat' (first|omega|(first|apply ag|(refine aj.intro (id:=8) qc qb (by decide+kernel) mixed ?_)|skip);simp only [go_sem,sevalprocAttr,bi,↓reduceIte,reduceCtorEq,qc,qb]|apply ae<;>(intro h_;(try simp only [h_]);revert h_)|apply And.intro|with_reducible intro h_|trivial|simp only [go_sem,ah];omega)
   all_goals exact az.iA (.cons (az.nils (by omega) rfl) (.cons (az.refl _) .nil))
  ·have e:=ya9 (Sp.tmsF lo q)
   repeat' (first|omega|(first|apply ag|(refine aj.intro (id:=8) qc qb (by decide+kernel) mixed ?_)|skip);simp only [go_sem,sevalprocAttr,bi,↓reduceIte,reduceCtorEq,qc,qb]|apply ae<;>(intro h_;(try simp only [h_]);revert h_)|apply And.intro|with_reducible intro h_|trivial|simp only [go_sem,ah];omega)
   all_goals (rw [List.take_of_length_le (by omega)];exact az.refl _)
theorem Hf (p:List (Int×Int)) (nm:List UInt8) (hr:tf p) (hn:nm.length<=1000) (iI:p.length<=1000):
  Fn Tryz.prog 23 [rpA p, .str ⟨nm.toArray⟩] (.str ⟨(fD nm p).toArray⟩):=by
 unfold fD
 split
 ·obtain rfl:p=[]:=List.eq_nil_of_length_eq_zero (by assumption);exact WY _
 ·exact WX p nm (by omega) hr hn iI
def Dw:List (List Nat):=[[48,49,50,51,52,53,54],[48,49,50,51,52,53,54],[46,47,49,52],[46,47,48,52],[46,47,52],[46,47,52],[46,47,48,49,50,51],[46,47],[46,47],[],[],[]]
theorem yv:eq2 Tryz.prog 129=true:=by decide+kernel
def fE (S:List (Int×Int)):List (Int×Int):=S.filter fun t=> !(t.2==0)
theorem Kb (S:List (Int×Int)):(fE S).length<=S.length:=List.length_filter_le _ _
theorem TY (S:List (Int×Int)) (hl:S.length<=100000) (hS: ∀t∈S,-1125899906842624<=t.2/\t.2<=1125899906842624) (hE: ∀t∈S,-1048576<=t.1/\t.1<=1048576):
  Fn Tryz.prog 104 [qeA S,qsA S] (rpA (fE S)):=by
 refine Fn.ai [.cell 4 49] Tryz.func104 rfl rfl (by decide) (by simp [Tryz.ntmps104]) ?_;rw [Tryz.ntmps104]
 repeat' (first|omega|(try apply ag);simp only [go_sem,sevalprocAttr]|apply ae<;>(intro h_;(try simp only [h_]);revert h_)|apply And.intro|with_reducible intro h_|trivial|simp only [go_sem,ah];omega)
 refine aR.intro (fun n fr H=> ∃i:Nat,i<=S.length/\n=S.length-i/\fr=[(6,I i),(5, .ptr 1 0),(4, .ptr 0 0),(1,qsA S),(0,qeA S)]/\((fE (S.take i)=[]/\H=[(1, .cells 49 (.lst [.nils, .bool false])),(0, .cells 49 (.lst [.nils, .bool false]))])\/H=[(3, .cells 98 (.lst (dr (fE (S.take i))))),(1, .cells 49 (.lst [.sl 2 3 0 (fE (S.take i)).length, .bool false])),(0, .cells 49 (.lst [.nils, .bool false]))])) ?_ ?_
 ·refine ⟨_,_,_,?_,0,by omega,rfl,rfl, .inl ⟨rfl,rfl⟩⟩;refine Wk.sub ?_ ?_<;>(simp only [go_sem,sevalprocAttr,ja])
 rintro n fr H ⟨i,hi,rfl,rfl,cC⟩;have Fa:=Kb (S.take i);have sW:(S.take i).length=i:=by rw [List.length_take];omega
 by_cases bH:i<S.length
 ·have bi:decide ((i:Int)<S.length)=true:=by simp;omega
  have BD:S.take (i+1)=S.take i++[S.getD i (0,0)]:=by rw [List.take_add_one,zzB,zzI bH];rfl
  have gO:fE (S.take (i+1))=fE (S.take i)++fE [S.getD i (0,0)]:=by rw [BD];simp [fE]
  have hm:=iO bH;have hz:=hS _ hm;have he:=hE _ hm;have mg:=GJ S i bH;have hlen:=tv S;have g0:=Hj S i bH;have g1:=Hi S i bH;have vG:=Xs _ hz;generalize S.getD i (0,0)=t at*;obtain ⟨e,z⟩:=t;simp only at hz he mg g0 g1 vG;have c3:decide (e< -1048576)=false:=by rw [decide_eq_false_iff_not];omega
  have c4:decide (1048576<e)=false:=by rw [decide_eq_false_iff_not];omega
  by_cases h0:z=0
  ·have b0:((z/1125899906842624==0)&&(z % 1125899906842624==0))=true:=by subst h0;rfl
   have pt:fE (S.take (i+1))=fE (S.take i):=by rw [gO,show fE [(e,z)]=[] by subst h0;rfl,List.append_nil]
   rcases cC with ⟨bx,rfl⟩|rfl
   ·repeat' (first|omega|(try apply ag);simp only [go_sem,sevalprocAttr,bi,b0,mg,g0,g1,hlen,yv,List.length_map]|apply ae<;>(intro h_;(try simp only [h_]);revert h_)|apply And.intro|with_reducible intro h_|trivial|simp only [go_sem,ah];omega)
    refine ⟨_,_,_,?_,?_,⟨i+1,by omega,rfl,rfl, .inl ⟨by rw [pt];exact bx,rfl⟩⟩⟩
    ·omega
    ·refine Wk.sub ?_ ?_<;>(simp only [go_sem,sevalprocAttr,ja])
   ·repeat' (first|omega|(try apply ag);simp only [go_sem,sevalprocAttr,bi,b0,mg,g0,g1,hlen,yv,List.length_map]|apply ae<;>(intro h_;(try simp only [h_]);revert h_)|apply And.intro|with_reducible intro h_|trivial|simp only [go_sem,ah];omega)
    refine ⟨_,_,_,?_,?_,⟨i+1,by omega,rfl,rfl, .inr rfl⟩⟩
    ·omega
    ·rw [pt];refine Wk.sub ?_ ?_<;>(simp only [go_sem,sevalprocAttr,ja,yaj])
  ·have b0:((z/1125899906842624==0)&&(z % 1125899906842624==0))=false:=by
    rw [Bool.and_eq_false_iff,beq_eq_false_iff_ne,beq_eq_false_iff_ne];omega
   have pt:fE (S.take (i+1))=fE (S.take i)++[(e,z)]:=by
    rw [gO];congr 1
    have:(z==0)=false:=by simpa using h0
    simp [fE,this]
   rcases cC with ⟨bx,rfl⟩|rfl
   ·rw [bx,List.nil_append] at pt;have e5:dr [(e,z)]=[I e,I z]:=rfl
    repeat' (first|omega|(try apply ag);simp only [go_sem,sevalprocAttr,bi,b0,mg,g0,g1,hlen,yv,List.length_map]|apply ae<;>(intro h_;(try simp only [h_]);revert h_)|apply And.intro|with_reducible intro h_|trivial|simp only [go_sem,ah];omega)
    all_goals refine ⟨au.fn rfl vG ?_⟩
    repeat' (first|omega|(first|apply ag|(refine aj.intro (id:=9) Dw [[],[],[0,1],[0,1,2],[0,1],[0,1],[0,1,2,3,4,5],[0,1],[0,1],[],[],[]] (by decide+kernel) mixed ?_)|skip);simp only [go_sem,sevalprocAttr,bi,b0,c3,c4,mg,g0,g1,hlen,yv,List.length_map,↓reduceIte,reduceCtorEq,Dw]|apply ae<;>(intro h_;(try simp only [h_]);revert h_)|apply And.intro|with_reducible intro h_|trivial|simp only [go_sem,ah];omega)
    all_goals (refine ⟨_,_,_,?_,?_,⟨i+1,by omega,rfl,rfl, .inr rfl⟩⟩)
    all_goals first|omega|skip
    all_goals rw [pt]
    all_goals (refine Wk.nS 3 11 (fr1:=[(6,I ((i+1:Nat):Int)),(5, .ptr 1 0),(4, .ptr 0 0),(1,qsA S),(0,qeA S)]) (H1:=[(11, .cells 98 (.lst (dr [(e,z)]))),(1, .cells 49 (.lst [.sl 2 11 0 [(e,z)].length, .bool false])),(0, .cells 49 (.lst [.nils, .bool false]))]) rfl rfl rfl rfl ?_ ?_<;>(simp only [go_sem,sevalprocAttr,e5,ja]))
   ·have e5:=wC (fE (S.take i)) e z;have e6:(fE (S.take i)++[(e,z)]).length=(fE (S.take i)).length+1:=by simp
    have e7:=ya9 (fE (S.take i))
    repeat' (first|omega|(try apply ag);simp only [go_sem,sevalprocAttr,bi,b0,mg,g0,g1,hlen,yv,List.length_map]|apply ae<;>(intro h_;(try simp only [h_]);revert h_)|apply And.intro|with_reducible intro h_|trivial|simp only [go_sem,ah];omega)
    all_goals refine ⟨au.fn rfl vG ?_⟩
    repeat' (first|omega|(first|apply ag|(refine aj.intro (id:=9) Dw [[],[],[0,1],[0,1,2],[0,1],[0,1],[0,1,2,3,4,5],[0,1],[0,1],[],[],[]] (by decide+kernel) mixed ?_)|skip);simp only [go_sem,sevalprocAttr,bi,b0,c3,c4,mg,g0,g1,hlen,yv,List.length_map,↓reduceIte,reduceCtorEq,Dw]|apply ae<;>(intro h_;(try simp only [h_]);revert h_)|apply And.intro|with_reducible intro h_|trivial|simp only [go_sem,ah];omega)
    all_goals (refine ⟨_,_,_,?_,?_,⟨i+1,by omega,rfl,rfl, .inr rfl⟩⟩)
    all_goals first|omega|skip
    all_goals rw [pt]
    all_goals (refine Wk.nS 3 13 (fr1:=[(6,I ((i+1:Nat):Int)),(5, .ptr 1 0),(4, .ptr 0 0),(1,qsA S),(0,qeA S)]) (H1:=[(13, .cells 98 (.lst (dr (fE (S.take i)++[(e,z)])))),(1, .cells 49 (.lst [.sl 2 13 0 (fE (S.take i)++[(e,z)]).length, .bool false])),(0, .cells 49 (.lst [.nils, .bool false]))]) rfl (by simp only [swH,swO,List.map_cons,List.map_nil,C3];rfl) rfl (by simp only [swH,swO,List.map_cons,List.map_nil,C3];rfl) ?_ ?_<;>(simp only [go_sem,sevalprocAttr,e5,e6,ja,yaj]))
 ·obtain rfl:i=S.length:=by omega
  have bi:decide ((S.length:Int)<S.length)=false:=by simp
  rw [List.take_length] at cC Fa;rcases cC with ⟨bx,rfl⟩|rfl
  ·rw [bx]
   repeat' (first|omega|(try apply ag);simp only [go_sem,sevalprocAttr,bi,List.length_map]|apply ae<;>(intro h_;(try simp only [h_]);revert h_)|apply And.intro|with_reducible intro h_|trivial|simp only [go_sem,ah];omega)
   all_goals exact az.iA (.cons (az.nils (by omega) rfl) (.cons (az.refl _) .nil))
  ·have e:=ya9 (fE S)
   repeat' (first|omega|(try apply ag);simp only [go_sem,sevalprocAttr,bi,List.length_map]|apply ae<;>(intro h_;(try simp only [h_]);revert h_)|apply And.intro|with_reducible intro h_|trivial|simp only [go_sem,ah];omega)
   all_goals (rw [List.take_of_length_le (by omega)];exact az.refl _)
end Go.Proofs.YtmdjdekgakidhaaGreatDoor
namespace Go.Proofs.YtmdjdekgakidhaaGreatDoor
open Go Go.RowKit Go.Shelf Go.Joins
set_option maxHeartbeats 4000000
set_option maxRecDepth 100000
def R1:Ren:=⟨fun|25=>82|26=>148|n=>n,fun|22=>67|n=>n,fun|n=>n⟩
theorem ML:Lays7.n25 Tryz.prog R1:={mixed:=by kernel_rfl,f25:=Tryz.func82.trans (congrArg some (by kernel_rfl)),t22:=Tryz.underlying67,a22:=Tryz.isAgg67,z22:=Tryz.sizeOf67,v22:=Tryz.zeroValue67,i22:=by kernel_rfl}
theorem KH:Lays7.n26 Tryz.prog R1:={mixed:=by kernel_rfl,f26:=Tryz.func148.trans (congrArg some (by kernel_rfl)),t22:=Tryz.underlying67,a22:=Tryz.isAgg67,z22:=Tryz.sizeOf67,v22:=Tryz.zeroValue67,i22:=by kernel_rfl}
theorem Nw (x y c:Nat) (hc:c<=1) (w:World):(callFunc 82 #[.int .u64 x, .int .u64 y, .int .u64 c]).run Tryz.prog w=
   .ok (.value (.tuple #[.int .u64 (((x+y+c)% 18446744073709551616:Nat):Int), .int .u64 (((x+y+c)/18446744073709551616:Nat):Int)])) w:=Any7.bits_Add64 ML x y c hc w
theorem Nv (x y c:Nat) (hc:c<=1) (w:World):(callFunc 148 #[.int .u64 x, .int .u64 y, .int .u64 c]).run Tryz.prog w=
   .ok (.value (.tuple #[.int .u64 (((x+18446744073709551616-y-c)% 18446744073709551616:Nat):Int), .int .u64 ((if x<y+c then 1 else 0:Nat):Int)])) w:=Any7.bits_Sub64 KH x y c hc w
theorem V8 (x y:Nat) (w:World):(callFunc 82 #[.int .u64 x, .int .u64 y, .int .u64 0]).run Tryz.prog w=
   .ok (.value (.tuple #[.int .u64 (((x+y)% 18446744073709551616:Nat):Int), .int .u64 (((x+y)/18446744073709551616:Nat):Int)])) w:=Nw x y 0 (by omega) w
theorem V7 (y:Nat) (w:World):(callFunc 148 #[.int .u64 0, .int .u64 y, .int .u64 0]).run Tryz.prog w=
   .ok (.value (.tuple #[.int .u64 (((0+18446744073709551616-y)% 18446744073709551616:Nat):Int), .int .u64 ((if 0<y then 1 else 0:Nat):Int)])) w:=Nv 0 y 0 (by omega) w
theorem V6 (y c:Nat) (hc:c<=1) (w:World):(callFunc 148 #[.int .u64 0, .int .u64 y, .int .u64 c]).run Tryz.prog w=
   .ok (.value (.tuple #[.int .u64 (((0+18446744073709551616-y-c)% 18446744073709551616:Nat):Int), .int .u64 ((if 0<y+c then 1 else 0:Nat):Int)])) w:=Nv 0 y c hc w
theorem ZD (w:World) (o1 o2 o3:Obj):(((w.alloc o1).alloc o2).alloc o3).heap[w.heap.size+1+1]?=some o3:=by
 have h:=heap_alloc_new ((w.alloc o1).alloc o2) o3;rw [show ((w.alloc o1).alloc o2).heap.size=w.heap.size+1+1 by simp] at h;exact h
theorem ZE (w:World) (o1 o2:Obj):((w.alloc o1).alloc o2).heap[w.heap.size+1]?=some o2:=by
 have h:=heap_alloc_new (w.alloc o1) o2;rw [show (w.alloc o1).heap.size=w.heap.size+1 by simp] at h;exact h
theorem WW (a b c d:Nat) (hb:b<18446744073709551616) (hd:d<18446744073709551616) (w:World):Calls Tryz.prog 41 #[.agg #[.int .u64 a, .int .u64 b], .agg #[.int .u64 c, .int .u64 d]] w fun e w'=>
  e= .returned (.agg #[.int .u64 (((a+c+(b+d)/18446744073709551616)% 18446744073709551616:Nat):Int), .int .u64 (((b+d)% 18446744073709551616:Nat):Int)])/\Below w.heap.size w w':=by
 obtain ⟨lo,iv⟩: ∃lo,lo=(b+d)% 18446744073709551616:=⟨_,rfl⟩;obtain ⟨cy,pD⟩: ∃cy,cy=(b+d)/18446744073709551616:=⟨_,rfl⟩;obtain ⟨hi,vP⟩: ∃hi,hi=(a+c+cy)% 18446744073709551616:=⟨_,rfl⟩;obtain ⟨cz,xe⟩: ∃cz,cz=(a+c+cy)/18446744073709551616:=⟨_,rfl⟩
 have r1: ∀w,(callFunc 82 #[.int .u64 b, .int .u64 d, .int .u64 0]).run Tryz.prog w= .ok (.value (.tuple #[.int .u64 lo, .int .u64 cy])) w:=fun w=>by rw [iv,pD];exact V8 b d w
 have r2: ∀w,(callFunc 82 #[.int .u64 a, .int .u64 c, .int .u64 cy]).run Tryz.prog w= .ok (.value (.tuple #[.int .u64 hi, .int .u64 cz])) w:=fun w=>by rw [vP,xe];exact Nw a c cy (by omega) w
 rw [←iv,←pD,←vP];clear iv pD vP xe
 go_enter Tryz.func41,Tryz.ntmps41
 go_wp2_with (simp only [r1,r2])
 refine ⟨rfl, .agg #[.int .u64 hi, .int .u64 lo],?_,rfl,below_alloc3 _ _ _ _⟩;exact results_cell_row (fn:=Tryz.f41) rfl _ _ (w.heap.size+1+1) 69 #[.int .u64 hi, .int .u64 lo] (0,0) _ rfl (ZD _ _ _ _) Tryz.underlying69 rfl (by kernel_rfl)
theorem WV (a b:Nat) (ha:a<18446744073709551616) (hb:b<18446744073709551616) (w:World):Calls Tryz.prog 123 #[.agg #[.int .u64 a, .int .u64 b]] w fun e w'=>
  e= .returned (.agg #[.int .u64 (((18446744073709551616-a-(if 0<b then 1 else 0))% 18446744073709551616:Nat):Int), .int .u64 (((18446744073709551616-b)% 18446744073709551616:Nat):Int)])/\Below w.heap.size w w':=by
 obtain ⟨lo,iv⟩: ∃lo,lo=(18446744073709551616-b)% 18446744073709551616:=⟨_,rfl⟩;obtain ⟨cy,pD⟩: ∃cy,cy=(if 0<b then 1 else 0:Nat):=⟨_,rfl⟩;have gm:cy<=1:=by rw [pD];split<;>omega
 obtain ⟨hi,vP⟩: ∃hi,hi=(18446744073709551616-a-cy)% 18446744073709551616:=⟨_,rfl⟩;obtain ⟨cz,xe⟩: ∃cz,cz=(if 0<a+cy then 1 else 0:Nat):=⟨_,rfl⟩;have r1: ∀w,(callFunc 148 #[.int .u64 0, .int .u64 b, .int .u64 0]).run Tryz.prog w= .ok (.value (.tuple #[.int .u64 lo, .int .u64 cy])) w:=fun w=>by
  rw [iv,pD];have:=V7 b w;rw [Nat.zero_add] at this;exact this
 have r2: ∀w,(callFunc 148 #[.int .u64 0, .int .u64 a, .int .u64 cy]).run Tryz.prog w= .ok (.value (.tuple #[.int .u64 hi, .int .u64 cz])) w:=fun w=>by
  rw [vP,xe];have:=V6 a cy gm w;rw [Nat.zero_add] at this;exact this
 rw [←iv,←pD,←vP];clear iv pD vP xe gm
 go_enter Tryz.func123,Tryz.ntmps123
 go_wp2_with (simp only [r1,r2])
 refine ⟨rfl, .agg #[.int .u64 hi, .int .u64 lo],?_,rfl,below_alloc2 _ _ _⟩;exact results_cell_row (fn:=Tryz.f123) rfl _ _ (w.heap.size+1) 69 #[.int .u64 hi, .int .u64 lo] (0,0) _ rfl (ZE _ _ _) Tryz.underlying69 rfl (by kernel_rfl)
abbrev wdA (z:Int):AV:= .agg [.int .u64 (z/18446744073709551616 % 18446744073709551616), .int .u64 (z % 18446744073709551616)]
attribute [go_sem] wdA
theorem F9 {w:World} {M:Nat->Prop} {ρ:Nat->Addr} {D:Nat->Prop} {v:Value} {z:Int} (h:VR w M ρ D v (wdA z)): ∃a b:Nat,v= .agg #[.int .u64 a, .int .u64 b]/\(a:Int)=z/18446744073709551616 % 18446744073709551616/\(b:Int)=z % 18446744073709551616:=by
 obtain ⟨vs,rfl,hl,hx⟩:=h.aL
 match vs,hl,hx with
 |[v0,v1],_,hx=>
  have e0:=(hx 0 v0 _ rfl rfl).an;have e1:=(hx 1 v1 _ rfl rfl).an;subst e0 e1;refine ⟨(z/18446744073709551616 % 18446744073709551616).toNat,(z % 18446744073709551616).toNat,?_,by omega,by omega⟩;rw [Int.toNat_of_nonneg (by omega),Int.toNat_of_nonneg (by omega)]
theorem Ra {w:World} {M:Nat->Prop} {ρ:Nat->Addr} {D:Nat->Prop} {z:Int} {a b:Nat} (h1:(a:Int)=z/18446744073709551616 % 18446744073709551616) (h2:(b:Int)=z % 18446744073709551616):VR w M ρ D (.agg #[.int .u64 a, .int .u64 b]) (wdA z):=by
 refine .agg [.int .u64 a, .int .u64 b] _ rfl fun i u x hu hx=>?_
 match i,hu,hx with
 |0,hu,hx=>cases hu;cases hx;rw [h1];exact .int _ _
 |1,hu,hx=>cases hu;cases hx;rw [h2];exact .int _ _
theorem KA (x y:Int):Fn Tryz.prog 41 [wdA x,wdA y] (wdA (x+y)):=by
 refine ⟨⟨_,Tryz.func41,rfl,by decide⟩,fun w Mx vs gn hl hv=>?_⟩
 match vs,hl,hv with
 |[v0,v1],_,hv=>
  obtain ⟨a,b,rfl,e1,e2⟩:=F9 (hv 0 v0 _ rfl rfl);obtain ⟨c,d,rfl,e3,e4⟩:=F9 (hv 1 v1 _ rfl rfl);refine (WW a b c d (by omega) (by omega) w).mono ?_;rintro e w' ⟨rfl,hb⟩;exact ⟨_,rfl,hb,Ra (by omega) (by omega)⟩
theorem Nu (x:Int):Fn Tryz.prog 123 [wdA x] (wdA (-x)):=by
 refine ⟨⟨_,Tryz.func123,rfl,by decide⟩,fun w Mx vs gn hl hv=>?_⟩
 match vs,hl,hv with
 |[v0],_,hv=>
  obtain ⟨a,b,rfl,e1,e2⟩:=F9 (hv 0 v0 _ rfl rfl);refine (WV a b (by omega) (by omega) w).mono ?_;rintro e w' ⟨rfl,hb⟩;refine ⟨_,rfl,hb,Ra ?_ (by omega)⟩
  split<;>omega
end Go.Proofs.YtmdjdekgakidhaaGreatDoor
