/- Layer 15: Bracket: the states are counted, and Horner's rule. -/
import Derived.Test.YtngegnonblbdhaaDoorZe
import Derived.Test.YtngegnonblbdhaaDoorZj
import Derived.Test.YtngegnonblbdhaaDoorHr
set_option linter.unusedSimpArgs false
set_option linter.unusedVariables false
namespace Go.Proofs.YtngegnonblbdhaaDoor
open Go Go.RowKit
set_option maxRecDepth 100000
set_option maxHeartbeats 8000000
def yt7:List (List Nat):=[[109,110,111,112,113,114],[108,110,111,112,113],[108,109,111,112],[108,109,110],[108,109,110],[108,109],[108],[],[]]
abbrev brH (s m:List Int) (L:Int) (E:List (Int×AV)) (T:List (Nat×List Int)):Hp:=(2, .imap 48 E)::(1, .cells 36 (.lst [.bool false, .nils]))::(0, .cells 24 (.lst [roI s,roI m,I L]))::yap T
theorem yig {s m:List Int} {L:Int} {E:List (Int×AV)} {T:List (Nat×List Int)} {i:Nat} (h:4<=i):hget (brH s m L E T) i=hget (ybd T) i:=by
 simp only [hget]
 rw [if_neg (by omega),if_neg (by omega),if_neg (by omega),ycy T (by omega)]
theorem ykr {n:Nat} {E:List (Int×AV)} {T:List (Nat×List Int)} {f:Int->Option (List Int)} (hT:Tab n E T f) {id:Nat} (h:(hget (ybd T) id).isSome=true):4<=id:=by
 obtain ⟨o,ho⟩:=Option.isSome_iff_exists.1 h
 obtain ⟨x,hx,_⟩:=yg5 ho
 exact hT.low _ hx
theorem y16 {s m:List Int} {L:Int} {n:Nat} {E:List (Int×AV)} {T:List (Nat×List Int)} {f:Int->Option (List Int)} (hT:Tab n E T f) {t:Nat}:sO (brH s m L E T) (.imap t E)=true:=by
 refine List.all_eq_true.2 fun q hq=>?_
 obtain ⟨id,e,h⟩:=hT.mem q hq
 rw [e]
 show (hget (brH s m L E T) id).isSome=true
 rw [yig (ykr hT h)];exact h
theorem ylf {s m:List Int} {L:Int} {n:Nat} {E:List (Int×AV)} {T:List (Nat×List Int)} {f:Int->Option (List Int)} (hT:Tab n E T f) {H:Hp} (h2:hget H 2=some (.imap 48 E)) (h1:hget H 1=some (.cells 36 (.lst [.bool false, .nils])))
  (h0:hget H 0=some (.cells 24 (.lst [roI s,roI m,I L]))) (h3:hget H 3=some .gone) (hr: ∀q∈T,hget H q.1=some (.cells 3 (.ints q.2))):subH H (brH s m L E T) (brH s m L E T):=
 ⟨h2,y16 hT,h1,rfl,h0,rfl,yg6 h3 T hr⟩
theorem yog {s m:List Int} {L:Int} {n:Nat} {E:List (Int×AV)} {T:List (Nat×List Int)} {f:Int->Option (List Int)} (hT:Tab n E T f):subH (brH s m L E T) (brH s m L E T) (brH s m L E T):=
 ylf hT rfl rfl rfl (by simp only [hget];exact ygk hT.low) fun q hq=>by rw [yig (hT.low q hq)];exact ydk hT.nd q hq
abbrev brX (s m:List Int) (L:Int) (E:List (Int×AV)) (T:List (Nat×List Int)) (B:Nat) (x:AV):Hp:=(B+1+1, .cells 36 (.lst [.bool false,x]))::(B+1, .cells 36 (.lst [.bool false, .ro 2 2 (.lst (tmC [(-2,-1),(2,-1)]))]))::brH s m L E T
theorem yqh {s m:List Int} {L:Int} {E:List (Int×AV)} {T:List (Nat×List Int)} {B:Nat} {x:AV} {i:Nat} (h:i<B):hget (brX s m L E T B x) i=hget (brH s m L E T) i:=by
 conv=>lhs;simp only [hget]
 rw [if_neg (by omega),if_neg (by omega)];rfl
theorem yt8 {s m:List Int} {L:Int} {n:Nat} {E:List (Int×AV)} {T:List (Nat×List Int)} {f:Int->Option (List Int)} (hT:Tab n E T f) {B:Nat} (hlt: ∀q∈T,q.1<B) {x:AV}:(E.all fun q=>s3 (brX s m L E T B x) q.2)=true:=by
 refine List.all_eq_true.2 fun q hq=>?_
 obtain ⟨id,e,h⟩:=hT.mem q hq
 rw [e]
 show (hget (brX s m L E T B x) id).isSome=true
 have hi:=ykr hT h
 obtain ⟨o,ho⟩:=Option.isSome_iff_exists.1 h
 obtain ⟨y,hy,_⟩:=yg5 ho
 have:=hlt _ hy
 rw [yqh this,yig hi];exact h
theorem yqi {s m:List Int} {L:Int} {n:Nat} {E:List (Int×AV)} {T:List (Nat×List Int)} {f:Int->Option (List Int)} (hT:Tab n E T f) {B:Nat} (hB:4<=B) (hlt: ∀q∈T,q.1<B) {x:AV} (hx: ∀H,s3 H x=true) {H:Hp}
  (h5:hget H (B+1+1)=some (.cells 36 (.lst [.bool false,x]))) (h4:hget H (B+1)=some (.cells 36 (.lst [.bool false, .ro 2 2 (.lst (tmC [(-2,-1),(2,-1)]))])))
  (h2:hget H 2=some (.imap 48 E)) (h1:hget H 1=some (.cells 36 (.lst [.bool false, .nils])))
  (h0:hget H 0=some (.cells 24 (.lst [roI s,roI m,I L]))) (h3:hget H 3=some .gone) (hr: ∀q∈T,hget H q.1=some (.cells 3 (.ints q.2))):subH H (brX s m L E T B x) (brX s m L E T B x):=by
 refine ⟨h5,?_,h4,rfl,h2,?_,h1,rfl,h0,rfl,yg6 h3 T hr⟩
 ·show ([.bool false,x]:List AV).all _=true
  simp only [List.all_cons,hx,List.all_nil,Bool.and_true];rfl
 ·exact yt8 hT hlt
theorem yfr {s m:List Int} {L:Int} {n:Nat} {E:List (Int×AV)} {T:List (Nat×List Int)} {f:Int->Option (List Int)} (hT:Tab n E T f) {B:Nat} (hB:4<=B) (hlt: ∀q∈T,q.1<B) {x:AV} (hx: ∀H,s3 H x=true):
  subH (brX s m L E T B x) (brX s m L E T B x) (brX s m L E T B x):=by
 have g: ∀i,i<B->hget (brX s m L E T B x) i=hget (brH s m L E T) i:=fun i hi=>yqh hi
 refine yqi hT hB hlt hx (by simp [hget]) (by simp [hget]) (by rw [g 2 (by omega)];rfl) (by rw [g 1 (by omega)];rfl) (by rw [g 0 (by omega)];rfl) ?_ fun q hq=>?_
 ·rw [g 3 (by omega)];simp only [hget];exact ygk hT.low
 ·rw [g _ (hlt q hq),yig (hT.low q hq)];exact ydk hT.nd q hq
theorem yt9:LeA (.agg [.bool false, .nils]) (plA false []):=LeA.aggL (.cons (LeA.refl _) (.cons (LeA.nils (by omega) rfl) .nil))
theorem yxa (a b:Nat):(if (a:Int)<b then (b:Int) else (a:Int))=((if a<b then b else a:Nat):Int):=by split<;>split<;>omega
theorem yg7 (s m:List Int) (L:Nat) (hv:yao s m L=true) (h0: ¬(s.length=0/\L=0)) (hs:s.length<=9) (hL:L<=20):Fn Tryd.prog 12 [dgA s m L] (.tup [plA false (brP m s.length L),I 0]):=by
 have hV:=ych s m L
 rw [hv] at hV
 have v1:=yb8 hv
 have hp:=pmOk hv
 have hcN:=fun b=>yrw hp (L:=L) b
 have b2:decide ((14:Int)<s.length)=false:=by simp;omega
 have b3:decide ((20:Int)<L)=false:=by simp;omega
 obtain ⟨n,hn⟩: ∃n,s.length=n:=⟨_,rfl⟩
 have hp2:(2:Nat)^n<=2^9:=Nat.pow_le_pow_right (by omega) (by omega)
 have hpp:0<2^n:=Nat.pow_pos (by omega)
 obtain ⟨K,hK⟩: ∃K:Nat,K=2^n:=⟨_,rfl⟩
 have hKi:(2:Int)^n=K:=by rw [hK];simp
 rw [←hK] at hp2 hpp
 have hMg:=fun b:Nat=>yoe s m L 23 [.rp (.lst [I b]) 0] (chB b) (by omega) v1.prd.ok rfl
 subst hn
 have hmo:=yod hcN K
 obtain ⟨x0,hx0⟩: ∃x,((s.length:Int)==0)=x:=⟨_,rfl⟩
 have b1:x0=true->((L:Int)==0)=false:=fun h=>by
  rw [←hx0,beq_iff_eq] at h
  rw [beq_eq_false_iff_ne];omega
 refine Fn.introL [.cell 2 36, .tmp 3] Tryd.func12 rfl rfl (by decide) (by simp [Tryd.ntmps12]) ?_;rw [Tryd.ntmps12]
 repeat' (first|omega|(try apply yaa);simp only [go_sem,sevalprocAttr]|apply yab<;>(intro h_;(try simp only [h_]);revert h_)|apply And.intro|with_reducible intro h_|trivial|simp only [go_sem,la2];omega)
 refine ⟨yad.fn rfl hV ?_⟩
 cases x0
 case' true=>
  have b1':=b1 rfl
  repeat' (first|omega|(try apply yaa);simp only [go_sem,sevalprocAttr,hx0,b1',b2,b3,hKi,Int.one_mul,Int.toNat_natCast]|apply yab<;>(intro h_;(try simp only [h_]);revert h_)|apply And.intro|with_reducible intro h_|trivial|simp only [go_sem,la2];omega)
 case' false=>
  repeat' (first|omega|(try apply yaa);simp only [go_sem,sevalprocAttr,hx0,b2,b3,hKi,Int.one_mul,Int.toNat_natCast]|apply yab<;>(intro h_;(try simp only [h_]);revert h_)|apply And.intro|with_reducible intro h_|trivial|simp only [go_sem,la2];omega)
 all_goals
  refine yak.intro (fun n fr H=> ∃(k:Nat) (E:List (Int×AV)) (T:List (Nat×List Int)),k<=K/\n=K-k/\Tab s.length E T (rowB m s.length L k)/\fr=[(43,I k),(42,I K),(6,I (ycu m s.length L k)),(5, .mp 2),(4,I s.length),(2, .ptr 1 0),(1, .ptr 0 0)]/\H=brH s m L E T) ?_ ?_
  ·refine ⟨_,_,_,(Wk.gone 3 (by simp only [go_sem,sevalprocAttr,yhv])).trans ?_,0,[],[],by omega,rfl,Tab.nil _,rfl,rfl⟩
   refine Wk.sub ?_ ?_<;>(simp only [go_sem,sevalprocAttr,yhv,ycu])
   all_goals simp_all
  rintro n fr H ⟨k,E,T,hk,rfl,hT,rfl,rfl⟩
  have hB3:=yt5 T
  obtain ⟨B,hB⟩: ∃B,hnew (yap T)=B:=⟨_,rfl⟩
  rw [hB] at hB3
  have q1:(1<=B)=True:=eq_true (by omega)
  have q2:(2<=B)=True:=eq_true (by omega)
  have q3:(3<=B)=True:=eq_true (by omega)
  have n0:(B=0)=False:=eq_false (by omega)
  have n1:(B=1)=False:=eq_false (by omega)
  have n2:(B=2)=False:=eq_false (by omega)
  have m1:(B+1<=B)=False:=eq_false (by omega)
  have hlt: ∀q∈T,q.1<B:=fun q hq=>by
   have h1:=hT.low q hq
   have h2:=ydk hT.nd q hq
   rw [←hB];exact yof T q.1 (.cells 3 (.ints q.2)) (by rw [ycy T (by omega)];exact h2)
  have hfr: ∀x,yef [(B,x)] (yap T)=True:=fun x=>ypf _ T
  have hfz: ∀x,frzH [(B,x)] (yap T)=yap T:=fun x=>ykp _ (by simp only [hget];rw [if_neg (by omega)]) T fun q hq=>by
   have:=hlt q hq
   simp only [hget];rw [if_neg (by omega)]
  by_cases hkl:k<K
  ·have hM:=hMg k (fun c hc=>y11 k c (by omega) (by omega))
   have hrl:=hcN k
   repeat' (first|omega|(try apply yaa);simp only [go_sem,sevalprocAttr,hB,q1,q2,q3,n0,n1,n2]|apply yab<;>(intro h_;(try simp only [h_]);revert h_)|apply And.intro|with_reducible intro h_|trivial|simp only [go_sem,la2];omega)
   refine ⟨yad.frz [B] rfl (by simp only [go_sem,sevalprocAttr,hB,q1,q2,q3,n0,n1,n2,hfr,hfz]) (by simp only [go_sem,sevalprocAttr,hB,q1,q2,q3,n0,n1,n2,hfr,hfz]) (by simp only [go_sem,sevalprocAttr,hB,q1,q2,q3,n0,n1,n2,hfr,hfz]) (by simp only [go_sem,sevalprocAttr,hB,q1,q2,q3,n0,n1,n2,hfr,hfz]) rfl rfl rfl (yad.fn rfl hM ?_)⟩
   have hck0:roots (mgB m (chB k) s.length)+L=cN m s.length L k:=rfl
   have hck:(roots (mgB m (chB k) s.length):Int)+L=(cN m s.length L k:Int):=by omega
   have hrl2:(roots (mgB m (chB k) s.length):Int)<=1000:=by omega
   have h512:K<=512:=hp2
   have hcl:=ye8 k s.length
   have hTg: ∀q∈T,hget (yap T) q.1=some (.cells 3 (.ints q.2)):=fun q hq=>by
    have:=hT.low q hq
    rw [ycy T (by omega)];exact ydk hT.nd q hq
   obtain ⟨E1,hE1⟩: ∃E1,(if (rowB m s.length L k (cN m s.length L k:Int)).isSome then E else lput E (cN m s.length L k:Int) (.sl 1 (B+1) 0 (s.length+1)))=E1:=⟨_,rfl⟩
   obtain ⟨T1,hT1e⟩: ∃T1,(if (rowB m s.length L k (cN m s.length L k:Int)).isSome then T else (B+1,List.replicate (s.length+1) 0)::T)=T1:=⟨_,rfl⟩
   obtain ⟨r1,hr1e⟩: ∃r1,(rowB m s.length L k (cN m s.length L k:Int)).getD (List.replicate (s.length+1) 0)=r1:=⟨_,rfl⟩
   have hrb:0<=r1.getD (cntB k s.length) 0/\r1.getD (cntB k s.length) 0<=1000:=by
    cases hf:rowB m s.length L k (cN m s.length L k:Int) with
    |none=>rw [hf] at hr1e;subst hr1e;simp [List.getD_eq_getElem?_getD,List.getElem?_replicate];split<;>simp
    |some r=>rw [hf] at hr1e;subst hr1e;have:=yg4 hf hcl;simp only [Option.getD_some];omega
   obtain ⟨f1,hf1⟩: ∃f1:Int->Option (List Int),(fun x=>if x=(cN m s.length L k:Int) then some r1 else rowB m s.length L k x)=f1:=⟨_,rfl⟩
   have key: ∃id1,Tab s.length E1 T1 f1/\ya4 E1 (cN m s.length L k:Int)=some (.sl 1 id1 0 (s.length+1))/\hget (ybd T1) id1=some (.cells 3 (.ints r1))/\r1.length=s.length+1:=by
    cases hf:rowB m s.length L k (cN m s.length L k:Int) with
    |none=>
     rw [hf] at hE1 hT1e hr1e
     simp only [Option.isSome_none,Bool.false_eq_true,if_false,Option.getD_none] at hE1 hT1e hr1e
     subst hE1 hT1e hr1e hf1
     exact ⟨B+1,hT.new hf (fun q hq=>by have:=hlt q hq;omega) (by omega) (by simp),yca _ _,by rw [ybv];simp [hget],by simp⟩
    |some r=>
     rw [hf] at hE1 hT1e hr1e
     simp only [Option.isSome_some,if_true,Option.getD_some] at hE1 hT1e hr1e
     obtain ⟨id,hl,hg,hr⟩:=hT.yes _ _ hf
     subst hE1 hT1e hr1e hf1
     have:(fun x=>if x=(cN m s.length L k:Int) then some r else rowB m s.length L k x)=rowB m s.length L k:=by
      funext x
      by_cases e:x=(cN m s.length L k:Int)
      ·rw [if_pos e,e,hf]
      ·rw [if_neg e]
     rw [this]
     exact ⟨id,hT,hl,hg,hr⟩
   obtain ⟨id1,hT1,hl1,hg1,hr1⟩:=key
   have hi4:4<=id1:=ykr hT1 (by rw [hg1];rfl)
   have hgG:hget (yap T1) id1=some (.cells 3 (.ints r1)):=by rw [ycy T1 (by omega)];exact hg1
   have i0:(0=id1)=False:=eq_false (by omega)
   have i1:(1=id1)=False:=eq_false (by omega)
   have i2:(2=id1)=False:=eq_false (by omega)
   have hset1: ∀r,hset (yap T1) id1 (.cells 3 (.ints r))=yap (tset T1 id1 r):=fun r=>yry T1 id1 r (by omega)
   have hnext:(fun x=>if x=(cN m s.length L k:Int) then some (r1.set (cntB k s.length) (r1.getD (cntB k s.length) 0+1)) else f1 x)=rowB m s.length L (k+1):=by
    funext x
    simp only [rowB]
    by_cases e:x=(cN m s.length L k:Int)
    ·rw [if_pos e,if_pos e,e,hr1e]
    ·rw [if_neg e,if_neg e,←hf1];simp only;rw [if_neg e]
   have hT2:=hT1.upd (r':=r1.set (cntB k s.length) (r1.getD (cntB k s.length) 0+1)) (by rw [←hf1];exact if_pos rfl) hl1 hg1 (by simpa using hr1)
   rw [hnext] at hT2
   have hTg1: ∀q∈T1,hget (yap T1) q.1=some (.cells 3 (.ints q.2)):=fun q hq=>by
    have:=hT1.low q hq
    rw [ycy T1 (by omega)];exact ydk hT1.nd q hq
   have hn1:((s.length:Int)+1).toNat=s.length+1:=by omega
   have mc:=yxa (ycu m s.length L k) (cN m s.length L k)
   have hc0:(0:Int)=(cntB k 0:Int):=rfl
   cases hf:rowB m s.length L k (cN m s.length L k:Int)
   case' none=>
    have hl:=hT.no _ hf
    rw [hf] at hE1 hT1e
    simp only [Option.isSome_none,Bool.false_eq_true,if_false] at hE1 hT1e
    repeat' (first|omega|(try apply yaa);simp only [go_sem,sevalprocAttr,hB,q1,q2,q3,n0,n1,n2,m1,hck,hl,hfz]|apply yab<;>(intro h_;(try simp only [h_]);revert h_)|apply And.intro|with_reducible intro h_|trivial|simp only [go_sem,la2];omega)
    rw [hn1,hE1]
    refine yak.intro (fun n fr H=> ∃c:Nat,c<=s.length/\n=s.length-c/\fr=[(66,I c),(65,I s.length),(10,I (cntB k c)),(9,I (cN m s.length L k)),(7, .rp (.lst [I k]) 0),(43,I k),(42,I K),(6,I (ycu m s.length L k)),(5, .mp 2),(4,I s.length),(2, .ptr 1 0),(1, .ptr 0 0)]/\H=brH s m L E1 T1) ?_ ?_
    ·refine ⟨_,_,_,Wk.sub ?_ (ylf hT1 ?_ ?_ ?_ ?_ ?_),0,by omega,rfl,rfl,rfl⟩
     ·simp only [go_sem,sevalprocAttr,hc0]
     ·simp only [go_sem,sevalprocAttr,n0,n1,n2]
     ·simp only [go_sem,sevalprocAttr,n0,n1,n2]
     ·simp only [go_sem,sevalprocAttr,n0,n1,n2]
     ·simp only [hget];rw [if_neg (by omega),if_neg (by omega),if_neg (by omega),if_neg (by omega),if_neg (by omega)];exact ygk hT.low
     ·intro q hq
      rw [←hT1e] at hq
      rcases List.mem_cons.1 hq with rfl|hq
      ·simp [hget]
      ·have a1:=hlt q hq
       have a2:=hT.low q hq
       simp only [hget];rw [if_neg (by omega),if_neg (by omega),if_neg (by omega),if_neg (by omega),if_neg (by omega)];exact hTg q hq
   case' some r=>
    obtain ⟨id,hl,hg,hr⟩:=hT.yes _ _ hf
    rw [hf] at hE1 hT1e
    simp only [Option.isSome_some,if_true] at hE1 hT1e
    repeat' (first|omega|(try apply yaa);simp only [go_sem,sevalprocAttr,hB,q1,q2,q3,n0,n1,n2,m1,hck,hl,hfz]|apply yab<;>(intro h_;(try simp only [h_]);revert h_)|apply And.intro|with_reducible intro h_|trivial|simp only [go_sem,la2];omega)
    rw [hE1]
    refine yak.intro (fun n fr H=> ∃c:Nat,c<=s.length/\n=s.length-c/\fr=[(66,I c),(65,I s.length),(10,I (cntB k c)),(9,I (cN m s.length L k)),(7, .rp (.lst [I k]) 0),(43,I k),(42,I K),(6,I (ycu m s.length L k)),(5, .mp 2),(4,I s.length),(2, .ptr 1 0),(1, .ptr 0 0)]/\H=brH s m L E1 T1) ?_ ?_
    ·refine ⟨_,_,_,Wk.sub ?_ (ylf hT1 ?_ ?_ ?_ ?_ ?_),0,by omega,rfl,rfl,rfl⟩
     ·simp only [go_sem,sevalprocAttr,hc0]
     ·simp only [go_sem,sevalprocAttr,n0,n1,n2]
     ·simp only [go_sem,sevalprocAttr,n0,n1,n2]
     ·simp only [go_sem,sevalprocAttr,n0,n1,n2]
     ·simp only [hget];rw [if_neg (by omega),if_neg (by omega),if_neg (by omega),if_neg (by omega)];exact ygk hT.low
     ·intro q hq
      rw [←hT1e] at hq
      have a1:=hlt q hq
      have a2:=hT.low q hq
      simp only [hget];rw [if_neg (by omega),if_neg (by omega),if_neg (by omega),if_neg (by omega)];exact hTg q hq
   all_goals
    rintro n fr H ⟨c,hc,rfl,rfl,rfl⟩
    have hcl:=ye8 k c
    have e0:(k:Int)/2^c=((k/2^c:Nat):Int):=by simp
    have hdv:k/2^c<=k:=Nat.div_le_self _ _
    have e1:=yx0 (k/2^c) (by omega)
    by_cases hcs:c<s.length
    ·have e2:(cntB k c:Int)+((k/2^c % 2:Nat):Int)=(cntB k (c+1):Int):=by simp only [cntB];omega
     repeat' (first|omega|(try apply yaa);simp only [go_sem,sevalprocAttr,e0,e1,e2,Int.toNat_natCast]|apply yab<;>(intro h_;(try simp only [h_]);revert h_)|apply And.intro|with_reducible intro h_|trivial|simp only [go_sem,la2];omega)
     refine ⟨_,_,_,?_,?_,⟨c+1,by omega,rfl,rfl,rfl⟩⟩
     ·omega
     ·refine Wk.sub ?_ (yog hT1)
      simp only [go_sem,sevalprocAttr]
    ·obtain rfl:c=s.length:=by omega
     repeat' (first|omega|(try apply yaa);simp only [go_sem,sevalprocAttr,Int.toNat_natCast,hl1,hgG,i0,i1,i2,hset1,hr1,mc]|apply yab<;>(intro h_;(try simp only [h_]);revert h_)|apply And.intro|with_reducible intro h_|trivial|simp only [go_sem,la2];omega)
     refine ⟨_,_,_,?_,?_,⟨k+1,E1,_,by omega,rfl,hT2,rfl,rfl⟩⟩
     ·omega
     ·refine Wk.sub ?_ (yog hT2)
      simp only [go_sem,sevalprocAttr,ycu]
  ·obtain rfl:k=K:=by omega
   repeat' (first|omega|(try apply yaa);simp only [go_sem,sevalprocAttr,hB,q1,q2,q3,n0,n1,n2,m1]|apply yab<;>(intro h_;(try simp only [h_]);revert h_)|apply And.intro|with_reducible intro h_|trivial|simp only [go_sem,la2];omega)
   refine ⟨yad.frz [B] rfl (by simp only [go_sem,sevalprocAttr,hB,q1,q2,q3,n0,n1,n2,hfr,hfz]) (by simp only [go_sem,sevalprocAttr,hB,q1,q2,q3,n0,n1,n2,hfr,hfz]) (by simp only [go_sem,sevalprocAttr,hB,q1,q2,q3,n0,n1,n2,hfr,hfz]) (by simp only [go_sem,sevalprocAttr,hB,q1,q2,q3,n0,n1,n2,hfr,hfz]) rfl rfl rfl (yad.fn rfl y12 ?_)⟩
   repeat' (first|omega|(try apply yaa);simp only [go_sem,sevalprocAttr,hB,q1,q2,q3,n0,n1,n2,m1,hfz]|apply yab<;>(intro h_;(try simp only [h_]);revert h_)|apply And.intro|with_reducible intro h_|trivial|simp only [go_sem,la2];omega)
   have eB:(B+1=B)=False:=eq_false (by omega)
   have m2:(B+1+1<=B)=False:=eq_false (by omega)
   have m3:(B+1+1+1<=B+1+1)=False:=eq_false (by omega)
   have m4:(B=B+1)=False:=eq_false (by omega)
   have m5:(B=B+2)=False:=eq_false (by omega)
   have hd0:yaf [] (yap T)=yap T:=ykq T fun i hi=>by cases hi
   have hd1:yaf [B+1+1+1] (yap T)=yap T:=ykq T fun i hi=>by
    simp only [List.mem_singleton] at hi
    subst hi
    exact ⟨by omega,fun q hq=>by have:=hlt q hq;omega⟩
   have hGa: ∀f:(Nat×AObj)->Bool,(∀i r,f (i, .cells 3 (.ints r))=true)->f (3, .gone)=true->(yap T).all f=true:=fun f=>yt6 T
   have hTg: ∀q∈T,hget (yap T) q.1=some (.cells 3 (.ints q.2)):=fun q hq=>by
    have:=hT.low q hq
    rw [ycy T (by omega)];exact ydk hT.nd q hq
   refine yak.intro (fun n fr H=> ∃(J:Nat) (P:List (Int×Int)) (x:AV),J<=ycu m s.length L k/\n=J/\yas P (brT m s.length L (J+1))/\(x= .nils/\P=[]\/x= .ro 2 P.length (.lst (tmC P)))/\
    fr=[(14,I J),(13, .ptr (B+1+1) 0),(12, .ptr (B+1) 0),(5, .mp 2),(4,I s.length),(2, .ptr 1 0)]/\H=brX s m L E T B x) ?_ ?_
   ·refine ⟨_,_,_,Wk.sub ?_ (yqi hT hB3 hlt (x:= .nils) (fun _=>rfl) ?_ ?_ ?_ ?_ ?_ ?_ ?_),ycu m s.length L k,[], .nils,Nat.le_refl _,rfl,yas.nil.congr fun e=>?_, .inl ⟨rfl,rfl⟩,rfl,rfl⟩
    ·simp only [go_sem,sevalprocAttr,eB,n0,n1,n2]
    ·simp only [go_sem,sevalprocAttr,eB,n0,n1,n2,hB]
    ·simp only [go_sem,sevalprocAttr,eB,n0,n1,n2,hB]
    ·simp only [go_sem,sevalprocAttr,eB,n0,n1,n2]
    ·simp only [go_sem,sevalprocAttr,eB,n0,n1,n2]
    ·simp only [go_sem,sevalprocAttr,eB,n0,n1,n2]
    ·simp only [hget];rw [if_neg (by omega),if_neg (by omega),if_neg (by omega),if_neg (by omega),if_neg (by omega),if_neg (by omega)];exact ygk hT.low
    ·intro q hq
     have a1:=hlt q hq
     have a2:=hT.low q hq
     simp only [hget];rw [if_neg (by omega),if_neg (by omega),if_neg (by omega),if_neg (by omega),if_neg (by omega),if_neg (by omega)];exact hTg q hq
    ·refine (yz5 (fun k' hk'=>?_) e).symm
     have:=yoc m s.length L k k' (by omega)
     omega
   rintro J fr H ⟨J0,P,x,hJ,rfl,hP,hx,rfl,rfl⟩
   by_cases hJ0:1<=J
   ·obtain ⟨Q,hQ,hMu⟩: ∃Q,yas Q (dml (brT m s.length L (J+1)))/\Fn Tryd.prog 25 [.agg [.bool false,x],plA false [(-2,-1),(2,-1)]] (plA false Q):=by
     rcases hx with ⟨rfl,rfl⟩|rfl
     ·refine ⟨[],yas.nil.congr fun e=>?_,yw4 _⟩
      have h1:=hP.cf (e+2)
      have h2:=hP.cf (e-2)
      simp only [cfL] at h1 h2
      unfold dml;rw [←h1,←h2];rfl
     ·exact y14 hP (fun e he=>ye9 hp hs hL (by omega) he) (fun e=>by have:=yle hp hs hL (j:=J+1) (by omega) e;omega) fun h=>yt2 hp hs hP.asc hP.cf h
    have hmJ:(J:Int)<=1000:=by omega
    have hJc:((J-1:Nat):Int)=(J:Int)-1:=by omega
    have hstep: ∀e,brT m s.length L J e=dml (brT m s.length L (J+1)) e+hrR (2^s.length) (cN m s.length L) (wB s.length) J e:=fun e=>yn6 J e
    rw [←hK] at hstep
    cases hf:rowB m s.length L k (J:Int)
    case' none=>
     have hl:=hT.no _ hf
     have hQ':yas Q (brT m s.length L (J-1+1)):=hQ.congr fun e=>by
      rw [show J-1+1=J by omega,hstep,yt3 hf];omega
     rcases hx with ⟨rfl,rfl⟩|rfl
     all_goals
      repeat' (first|omega|(try apply yaa);simp only [go_sem,sevalprocAttr,eB,n0,n1,n2,m1]|apply yab<;>(intro h_;(try simp only [h_]);revert h_)|apply And.intro|with_reducible intro h_|trivial|simp only [go_sem,la2];omega)
      refine ⟨yad.fn rfl hMu ?_⟩
      repeat' (first|omega|(try apply yaa);simp only [go_sem,sevalprocAttr,eB,n0,n1,n2,m1,hl]|apply yab<;>(intro h_;(try simp only [h_]);revert h_)|apply And.intro|with_reducible intro h_|trivial|simp only [go_sem,la2];omega)
      refine yak.intro (fun n fr H=>n=0/\fr=[(103,I 0),(102,I 0),(14,I J),(13, .ptr (B+1+1) 0),(12, .ptr (B+1) 0),(5, .mp 2),(4,I s.length),(2, .ptr 1 0)]/\H=brX s m L E T B (.ro 2 Q.length (.lst (tmC Q)))) ?_ ?_
      ·refine ⟨_,_,_,Wk.sub ?_ (yfr hT hB3 hlt (fun _=>rfl)),rfl,rfl,rfl⟩
       simp only [go_sem,sevalprocAttr,eB,n0,n1,n2]
      rintro n fr H ⟨rfl,rfl,rfl⟩
      repeat' (first|omega|(try apply yaa);simp only [go_sem,sevalprocAttr,eB,n0,n1,n2,m1]|apply yab<;>(intro h_;(try simp only [h_]);revert h_)|apply And.intro|with_reducible intro h_|trivial|simp only [go_sem,la2];omega)
      refine ⟨_,_,_,?_,?_,⟨J-1,Q,_,by omega,rfl,hQ', .inr rfl,rfl,rfl⟩⟩
      ·omega
      ·refine Wk.sub ?_ (yfr hT hB3 hlt (fun _=>rfl))
       simp only [go_sem,sevalprocAttr,eB,n0,n1,n2,hJc]
    case' some r=>
     obtain ⟨id,hl,hg,hr⟩:=hT.yes _ _ hf
     have hi4:4<=id:=ykr hT (by rw [hg];rfl)
     have hgG:hget (yap T) id=some (.cells 3 (.ints r)):=by rw [ycy T (by omega)];exact hg
     have hidB:id<B:=by rw [←hB];exact yof T id _ hgG
     have i0:(0=id)=False:=eq_false (by omega)
     have i1:(1=id)=False:=eq_false (by omega)
     have i2:(2=id)=False:=eq_false (by omega)
     have i3:(B+1=id)=False:=eq_false (by omega)
     have i4:(B+1+1=id)=False:=eq_false (by omega)
     rcases hx with ⟨rfl,rfl⟩|rfl
     all_goals
      repeat' (first|omega|(try apply yaa);simp only [go_sem,sevalprocAttr,eB,n0,n1,n2,m1]|apply yab<;>(intro h_;(try simp only [h_]);revert h_)|apply And.intro|with_reducible intro h_|trivial|simp only [go_sem,la2];omega)
      refine ⟨yad.fn rfl hMu ?_⟩
      repeat' (first|omega|(try apply yaa);simp only [go_sem,sevalprocAttr,eB,n0,n1,n2,m1,hl]|apply yab<;>(intro h_;(try simp only [h_]);revert h_)|apply And.intro|with_reducible intro h_|trivial|simp only [go_sem,la2];omega)
      refine yak.intro (fun n fr H=> ∃(x:Nat) (R:List (Int×Int)),x<=s.length+1/\n=s.length+1-x/\yas R (fun e=>dml (brT m s.length L (J+1)) e+rowT s.length r x e)/\
       fr=[(103,I x),(102,I (s.length+1:Nat)),(101, .sl 1 id 0 (s.length+1)),(14,I J),(13, .ptr (B+1+1) 0),(12, .ptr (B+1) 0),(5, .mp 2),(4,I s.length),(2, .ptr 1 0)]/\H=brX s m L E T B (.ro 2 R.length (.lst (tmC R)))) ?_ ?_
      ·refine ⟨_,_,_,Wk.sub ?_ (yfr hT hB3 hlt (fun _=>rfl)),0,Q,by omega,rfl,hQ.congr fun e=>by simp [rowT,sm],rfl,rfl⟩
       simp only [go_sem,sevalprocAttr,eB,n0,n1,n2,hgG,i0,i1,i2,i3,i4]
      rintro n fr H ⟨x,R,hxl,rfl,hR,rfl,rfl⟩
      by_cases hxn:x<s.length+1
      ·have hb:=yg4 hf (x:=x) (by omega)
       have hTm:=y0c (r.getD x 0) ((s.length:Int)-2*x) (by omega) (by omega)
       obtain ⟨R',hR',hA⟩:=y15 hR (y13 (r.getD x 0) ((s.length:Int)-2*x)) (fun e he=>by
        by_cases h1:dml (brT m s.length L (J+1)) e=0
        ·exact yw7 hs hxl (e:=e) (fun h=>he (by rw [h1,h];rfl))
        ·by_cases h2:brT m s.length L (J+1) (e+2)=0
         ·by_cases h3:brT m s.length L (J+1) (e-2)=0
          ·exact absurd (by unfold dml;rw [h2,h3];rfl) h1
          ·have:=ydj hp h3
           have h4:=ycj hp (fun _=>true)
           have h5:=ycj hp (fun _=>false)
           omega
         ·have:=ydj hp h2
          have h4:=ycj hp (fun _=>true)
          have h5:=ycj hp (fun _=>false)
          omega) (fun e he=>by
        by_cases h1:e=(s.length:Int)-2*x
        ·omega
        ·exact absurd (if_neg h1) he) (fun e=>by
        have h1:=yle hp hs hL (j:=J+1) (by omega) (e+2)
        have h2:=yle hp hs hL (j:=J+1) (by omega) (e-2)
        have h3:=yw6 hf (by omega) hs x hxl e
        unfold dml;omega) (fun e=>by split<;>omega)
       have hR2:yas R' (fun e=>dml (brT m s.length L (J+1)) e+rowT s.length r (x+1) e):=hR'.congr fun e=>by
        have:rowT s.length r (x+1) e=rowT s.length r x e+(if e=(s.length:Int)-2*x then r.getD x 0 else 0):=rfl
        omega
       have hEa:(E.all fun q=>s3 (brX s m L E T B (.ro 2 R.length (.lst (tmC R)))) q.2)=true:=yt8 hT hlt
       repeat' (first|omega|(first|apply yaa|(refine yac.intro (id:=35) yt7 [[],[0],[0,1],[0,1,2],[0,1,2],[0,1],[0],[],[]] (by decide+kernel) mixed ?_)|skip);simp only [go_sem,sevalprocAttr,hB,q1,q2,q3,eB,n0,n1,n2,m1,m2,m3,m4,m5,hd0,hd1,hGa,ybh,hgG,i0,i1,i2,i3,i4,hr,↓reduceIte,reduceCtorEq,yt7]|apply yab<;>(intro h_;(try simp only [h_]);revert h_)|apply And.intro|with_reducible intro h_|trivial|simp only [go_sem,la2];omega)
       all_goals (try exact hEa)
       refine ⟨yav.fn rfl hTm ?_⟩
       simp only [go_sem,sevalprocAttr,hB,q1,q2,q3,eB,n0,n1,n2,m1,m2,m3,m4,m5,hd0,hd1,hGa,ybh]
       try refine ⟨hEa,?_⟩
       refine ⟨yav.fn rfl hA ?_⟩
       simp only [go_sem,sevalprocAttr,hB,q1,q2,q3,eB,n0,n1,n2,m1,m2,m3,m4,m5,hd0,hd1,hGa,ybh]
       try refine ⟨hEa,?_⟩
       repeat' (first|omega|(try apply yaa);simp only [go_sem,sevalprocAttr,hB,q1,q2,q3,eB,n0,n1,n2,m1,m2,m3,m4,m5,hd0,hd1,hGa,ybh]|apply yab<;>(intro h_;(try simp only [h_]);revert h_)|apply And.intro|with_reducible intro h_|trivial|simp only [go_sem,la2];omega)
       all_goals (try exact hEa)
       refine ⟨_,_,_,?_,?_,⟨x+1,R',by omega,rfl,hR2,rfl,rfl⟩⟩
       ·omega
       ·refine Wk.sub ?_ (yfr hT hB3 hlt (fun _=>rfl))
        simp only [go_sem,sevalprocAttr,eB,n0,n1,n2,hgG,i0,i1,i2,i3,i4]
      ·obtain rfl:x=s.length+1:=by omega
       have hQ':yas R (brT m s.length L (J-1+1)):=hR.congr fun e=>by
        rw [show J-1+1=J by omega,hstep,yw2 hf]
       repeat' (first|omega|(try apply yaa);simp only [go_sem,sevalprocAttr,eB,n0,n1,n2,m1]|apply yab<;>(intro h_;(try simp only [h_]);revert h_)|apply And.intro|with_reducible intro h_|trivial|simp only [go_sem,la2];omega)
       refine ⟨_,_,_,?_,?_,⟨J-1,R,_,by omega,rfl,hQ', .inr rfl,rfl,rfl⟩⟩
       ·omega
       ·refine Wk.sub ?_ (yfr hT hB3 hlt (fun _=>rfl))
        simp only [go_sem,sevalprocAttr,eB,n0,n1,n2,hJc]
   ·obtain rfl:J=0:=by omega
    have hPe:P=brP m s.length L:=hP.eq fun e he=>ye9 hp hs hL (by omega) he
    rcases hx with ⟨rfl,hP0⟩|rfl
    all_goals
     repeat' (first|omega|(try apply yaa);simp only [go_sem,sevalprocAttr,eB,n0,n1,n2,m1,yf0]|apply yab<;>(intro h_;(try simp only [h_]);revert h_)|apply And.intro|with_reducible intro h_|trivial|simp only [go_sem,la2];omega)
    ·rw [←hPe,hP0]
     exact LeA.tupL (.cons yt9 (.cons (LeA.refl _) .nil))
    ·rw [←hPe]
     exact LeA.refl _
end Go.Proofs.YtngegnonblbdhaaDoor
