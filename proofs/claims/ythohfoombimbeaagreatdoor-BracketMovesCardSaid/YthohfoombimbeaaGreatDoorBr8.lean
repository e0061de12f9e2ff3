/- Layer 15: Bracket: the states are counted, and Horner's rule. -/
import Derived.Test.YthohfoombimbeaaGreatDoorZg
set_option linter.unusedSimpArgs false
set_option linter.unusedVariables false
namespace Go.Proofs.YthohfoombimbeaaGreatDoor
open Go Go.RowKit
set_option maxRecDepth 99999
set_option maxHeartbeats 8000000
def ZL:fc:=[(35,[[109,110,111,112,113,114],[108,110,111,112,113],[108,109,111,112],[108,109,110],[108,109,110],[108,109],[108],[],[]],[[],[0],[0,1],[0,1,2],[0,1,2],[0,1],[0],[],[]])]
abbrev tx(s m:List Int)(L:Int)(E:List (Int×AV))(T:List (Nat×List Int)):Hp:=(2,.imap 48 E)::(1,.cells 34 (.lst [.bool false,.nils]))::(0,.cells 24 (.lst [roI s,roI m,I L]))::fF T
theorem IP{s m:List Int}{L:Int}{E:List (Int×AV)}{T:List (Nat×List Int)}{i:Nat}(h:4<=i):hget (tx s m L E T) i=hget (lR T) i:=by
 simp only[hget];rw[zL (by omega),zL (by omega),zL (by omega),Ba T (by omega)]
theorem Ik{n:Nat}{E:List (Int×AV)}{T:List (Nat×List Int)}{f:Int->Option (List Int)}(hT:qd n E T f){id:Nat}(h:(hget (lR T) id).isSome=true):4<=id:=by
 obtain⟨o,ho⟩:=Option.isSome_iff_exists.1 h;obtain⟨x,hx,_⟩:=IZ ho;exact hT.low _ hx
theorem ZK{s m:List Int}{L:Int}{n:Nat}{E:List (Int×AV)}{T:List (Nat×List Int)}{f:Int->Option (List Int)}(hT:qd n E T f){t:Nat}:sO (tx s m L E T) (.imap t E)=true:=by
 refine zZ.2 fun q hq=>?_;obtain⟨id,e,h⟩:=hT.mem q hq;rw[e];show (hget (tx s m L E T) id).isSome=true;rw[IP (Ik hT h)];exact h
theorem LY{s m:List Int}{L:Int}{n:Nat}{E:List (Int×AV)}{T:List (Nat×List Int)}{f:Int->Option (List Int)}(hT:qd n E T f){H:Hp}(h2:hget H 2=some (.imap 48 E))(h1:hget H 1=some (.cells 34 (.lst [.bool false,.nils])))
  (h0:hget H 0=some (.cells 24 (.lst [roI s,roI m,I L]))) (h3:hget H 3=some .gone) (hr:∀q∈T,hget H q.1=some (.cells 3 (.ints q.2))):subH H (tx s m L E T) (tx s m L E T):=
 ⟨h2,ZK hT,h1,rfl,h0,rfl,M7 h3 T hr⟩
theorem Su{s m:List Int}{L:Int}{n:Nat}{E:List (Int×AV)}{T:List (Nat×List Int)}{f:Int->Option (List Int)}(hT:qd n E T f):subH (tx s m L E T) (tx s m L E T) (tx s m L E T):=
 LY hT rfl rfl rfl (by simp only[hget];exact Em hT.low) fun q hq=>by rw[IP (hT.low q hq)];exact Bc hT.nd q hq
abbrev uj(s m:List Int)(L:Int)(E:List (Int×AV))(T:List (Nat×List Int))(B:Nat)(x:AV):Hp:=(B+1+1,.cells 34 (.lst [.bool false,x]))::(B+1,.cells 34 (.lst [.bool false,.ro 2 2 (.lst (e9 [(-2,-1),(2,-1)]))]))::tx s m L E T
theorem Ro{s m:List Int}{L:Int}{E:List (Int×AV)}{T:List (Nat×List Int)}{B:Nat}{x:AV}{i:Nat}(h:i<B):hget (uj s m L E T B x) i=hget (tx s m L E T) i:=by
 conv=>lhs;simp only[hget]
 rw[zL (by omega),zL (by omega)];rfl
theorem Vf{s m:List Int}{L:Int}{n:Nat}{E:List (Int×AV)}{T:List (Nat×List Int)}{f:Int->Option (List Int)}(hT:qd n E T f){B:Nat}(aC:∀q∈T,q.1<B){x:AV}:(E.all fun q=>s3 (uj s m L E T B x) q.2)=true:=by
 refine zZ.2 fun q hq=>?_;obtain⟨id,e,h⟩:=hT.mem q hq;rw[e];show (hget (uj s m L E T B x) id).isSome=true;have hi:=Ik hT h;obtain⟨o,ho⟩:=Option.isSome_iff_exists.1 h;obtain⟨y,hy,_⟩:=IZ ho
 have:=aC _ hy
 rw[Ro this,IP hi];exact h
theorem Rn{s m:List Int}{L:Int}{n:Nat}{E:List (Int×AV)}{T:List (Nat×List Int)}{f:Int->Option (List Int)}(hT:qd n E T f){B:Nat}(hB:4<=B)(aC:∀q∈T,q.1<B){x:AV}(hx:∀H,s3 H x=true){H:Hp}
  (h5:hget H (B+1+1)=some (.cells 34 (.lst [.bool false,x]))) (h4:hget H (B+1)=some (.cells 34 (.lst [.bool false,.ro 2 2 (.lst (e9 [(-2,-1),(2,-1)]))])))
  (h2:hget H 2=some (.imap 48 E)) (h1:hget H 1=some (.cells 34 (.lst [.bool false,.nils])))
  (h0:hget H 0=some (.cells 24 (.lst [roI s,roI m,I L]))) (h3:hget H 3=some .gone) (hr:∀q∈T,hget H q.1=some (.cells 3 (.ints q.2))):subH H (uj s m L E T B x) (uj s m L E T B x):=by
 refine⟨h5,?_,h4,rfl,h2,?_,h1,rfl,h0,rfl,M7 h3 T hr⟩
 ·show ([.bool false,x]:List AV).all _=true;simp only[List.all_cons,hx,List.all_nil,Bool.and_true];rfl
 ·exact Vf hT aC
theorem ED{s m:List Int}{L:Int}{n:Nat}{E:List (Int×AV)}{T:List (Nat×List Int)}{f:Int->Option (List Int)}(hT:qd n E T f){B:Nat}(hB:4<=B)(aC:∀q∈T,q.1<B){x:AV}(hx:∀H,s3 H x=true):
  subH (uj s m L E T B x) (uj s m L E T B x) (uj s m L E T B x):=by
 have g:∀i,i<B->hget (uj s m L E T B x) i=hget (tx s m L E T) i:=fun i hi=>Ro hi;refine Rn hT hB aC hx (by simp[hget]) (by simp[hget]) (by rw[g 2 (by omega)];rfl) (by rw[g 1 (by omega)];rfl) (by rw[g 0 (by omega)];rfl) ?_ fun q hq=>?_
 ·rw[g 3 (by omega)];simp only[hget];exact Em hT.low
 ·rw[g _ (aC q hq),IP (hT.low q hq)];exact Bc hT.nd q hq
theorem y0n:aT (.agg [.bool false,.nils]) (plA false []):=aT.pK (.cons (aT.refl _) (.cons (aT.nils (by omega) rfl) .nil))
theorem y34(a b:Nat):(if (a:Int)<b then (b:Int) else (a:Int))=((if a<b then b else a:Nat):Int):=by split<;>split<;>omega
theorem EX(s m:List Int)(L:Nat)(hv:bG s m L=true)(h0:¬(s.length=0/\L=0))(hs:s.length<=9)(hL:L<=20):Fn Tryz.prog 7 [dgA s m L] (.tup [plA false (pD m s.length L),I 0]):=by
 have hV:=C4 s m L;rw[hv]at hV;have v1:=gP hv;have hp:=x8 hv;have WU:=fun b=>Zs hp (L:=L) b;have b2:decide ((14:Int)<s.length)=false:=by simp;omega
 have b3:decide ((20:Int)<L)=false:=by simp;omega
 obtain⟨n,hn⟩:∃n,s.length=n:=⟨_,rfl⟩;have ow:(2:Nat)^n<=2^9:=Nat.pow_le_pow_right (by omega) (by omega);have Gg:0<2^n:=Nat.pow_pos (by omega);obtain⟨K,hK⟩:∃K:Nat,K=2^n:=⟨_,rfl⟩;have Xg:(2:Int)^n=K:=by rw[hK];simp
 rw[<-hK]at ow Gg;have Ko:=fun b:Nat=>y3r s m L 22 [.rp (.lst [I b]) 0] (cV b) (by omega) v1.prd.ok rfl;subst hn;have wb:=SN WU K;obtain⟨x0,jb⟩:∃x,((s.length:Int)==0)=x:=⟨_,rfl⟩;have b1:x0=true->((L:Int)==0)=false:=fun h=>by
  rw[<-jb,beq_iff_eq]at h;rw[zX];omega
 refine Fn.av [.cell 2 34,.tmp 3] Tryz.func7 rfl rfl (by decide) (by simp[Tryz.ntmps7]) ?_;rw[Tryz.ntmps7]
 repeat' (first|omega|(try apply ah);simp only[go_sem]|apply ag<;>(intro h_;(try simp only[h_]);revert h_)|apply zO|with_reducible intro h_|trivial)
 refine⟨aL.fn rfl hV ?_⟩;cases x0
 case' true=>
  have Qn:=b1 rfl
  repeat' (first|omega|(try apply ah);simp only[go_sem,jb,Qn,b2,b3,Xg,Int.one_mul,zD]|apply ag<;>(intro h_;(try simp only[h_]);revert h_)|apply zO|with_reducible intro h_|trivial)
 case' false=>
  repeat' (first|omega|(try apply ah);simp only[go_sem,jb,b2,b3,Xg,Int.one_mul,zD]|apply ag<;>(intro h_;(try simp only[h_]);revert h_)|apply zO|with_reducible intro h_|trivial)
 all_goals
  refine dr.intro (fun n fr H=>∃(k:Nat) (E:List (Int×AV)) (T:List (Nat×List Int)),k<=K/\n=K-k/\qd s.length E T (de m s.length L k)/\fr=[(43,I k),(42,I K),(6,I (sK m s.length L k)),(5,.mp 2),(4,I s.length),(2,.ptr 1 0),(1,.ptr 0 0)]/\H=tx s m L E T) ?_ ?_
  ·refine⟨_,_,_,(Wk.gone 3 (by simp only[go_sem,MZ])).trans ?_,0,[],[],by omega,rfl,qd.nil _,rfl,rfl⟩;refine Wk.sub ?_ ?_<;>(simp only[go_sem,MZ,sK])
   all_goals simp_all
  rintro n fr H ⟨k,E,T,hk,rfl,hT,rfl,rfl⟩;have Ca:=y0k T;obtain⟨B,hB⟩:∃B,hnew (fF T)=B:=⟨_,rfl⟩;rw[hB]at Ca;have q1:(1<=B)=True:=eq_true (by omega);have q2:(2<=B)=True:=eq_true (by omega);have q3:(3<=B)=True:=eq_true (by omega);have n0:(B=0)=False:=zN (by omega);have n1:(B=1)=False:=zN (by omega);have n2:(B=2)=False:=zN (by omega)
  have m1:(B+1<=B)=False:=zN (by omega);have aC:∀q∈T,q.1<B:=fun q hq=>by
   have h1:=hT.low q hq;have h2:=Bc hT.nd q hq;rw[<-hB];exact Sv T q.1 (.cells 3 (.ints q.2)) (by rw[Ba T (by omega)];exact h2)
  have jY:∀x,ye7 [(B,x)] (fF T)=True:=fun x=>YB _ T;have hfz:∀x,fg [(B,x)] (fF T)=fF T:=fun x=>Uf _ (by simp only[hget];rw[zL (by omega)]) T fun q hq=>by
   have:=aC q hq
   simp only[hget];rw[zL (by omega)]
  by_cases cX:k<K
  ·have hM:=Ko k (fun c hc=>Zh k c (by omega) (by omega));have nI:=WU k
   repeat' (first|omega|(try apply ah);simp only[go_sem,hB,q1,q2,q3,n0,n1,n2]|apply ag<;>(intro h_;(try simp only[h_]);revert h_)|apply zO|with_reducible intro h_|trivial)
   refine⟨aL.wO [B] rfl (by simp only[go_sem,hB,q1,q2,q3,n0,n1,n2,jY,hfz]) (by simp only[go_sem,hB,q1,q2,q3,n0,n1,n2,jY,hfz]) (by simp only[go_sem,hB,q1,q2,q3,n0,n1,n2,jY,hfz]) (by simp only[go_sem,hB,q1,q2,q3,n0,n1,n2,jY,hfz]) rfl rfl rfl (aL.fn rfl hM ?_)⟩;have hck0:roots (ff m (cV k) s.length)+L=cN m s.length L k:=rfl
   have gC:(roots (ff m (cV k) s.length):Int)+L=(cN m s.length L k:Int):=by omega
   have hrl2:(roots (ff m (cV k) s.length):Int)<=1000:=by omega
   have h512:K<=512:=ow;have cW:=zk k s.length;have Kl:∀q∈T,hget (fF T) q.1=some (.cells 3 (.ints q.2)):=fun q hq=>by
    have:=hT.low q hq
    rw[Ba T (by omega)];exact Bc hT.nd q hq
   obtain⟨E1,uR⟩:∃E1,(if (de m s.length L k (cN m s.length L k:Int)).isSome then E else fH E (cN m s.length L k:Int) (.sl 1 (B+1) 0 (s.length+1)))=E1:=⟨_,rfl⟩;obtain⟨T1,ln⟩:∃T1,(if (de m s.length L k (cN m s.length L k:Int)).isSome then T else (B+1,List.replicate (s.length+1) 0)::T)=T1:=⟨_,rfl⟩
   obtain⟨r1,mC⟩:∃r1,(de m s.length L k (cN m s.length L k:Int)).getD (List.replicate (s.length+1) 0)=r1:=⟨_,rfl⟩;have Wn:0<=r1.getD (dj k s.length) 0/\r1.getD (dj k s.length) 0<=1000:=by
    cases hf:de m s.length L k (cN m s.length L k:Int) with
    |none=>rw[hf]at mC;subst mC;simp[zB,List.getElem?_replicate];split<;>simp
    |some r=>rw[hf]at mC;subst mC;have:=Nb hf cW;simp only[Option.getD_some];omega
   obtain⟨f1,uP⟩:∃f1:Int->Option (List Int),(fun x=>if x=(cN m s.length L k:Int) then some r1 else de m s.length L k x)=f1:=⟨_,rfl⟩;have key:∃vI,qd s.length E1 T1 f1/\jW E1 (cN m s.length L k:Int)=some (.sl 1 vI 0 (s.length+1))/\hget (lR T1) vI=some (.cells 3 (.ints r1))/\r1.length=s.length+1:=by
    cases hf:de m s.length L k (cN m s.length L k:Int) with
    |none=>
     rw[hf]at uR ln mC;simp only[Option.isSome_none,Bool.false_eq_true,if_false,Option.getD_none]at uR ln mC;subst uR ln mC uP;exact⟨B+1,hT.new hf (fun q hq=>by have:=aC q hq;omega) (by omega) (by simp),E4 _ _,by rw[xQ];simp[hget],by simp⟩
    |some r=>
     rw[hf]at uR ln mC;simp only[Option.isSome_some,if_true,Option.getD_some]at uR ln mC;obtain⟨id,hl,hg,hr⟩:=hT.yes _ _ hf;subst uR ln mC uP
     have:(fun x=>if x=(cN m s.length L k:Int) then some r else de m s.length L k x)=de m s.length L k:=by
      funext x;by_cases e:x=(cN m s.length L k:Int)
      ·rw[zM e,e,hf]
      ·rw[zL e]
     rw[this];exact⟨id,hT,hl,hg,hr⟩
   obtain⟨vI,bC,mI,xA,J4⟩:=key;have WG:4<=vI:=Ik bC (by rw[xA];rfl);have DK:hget (fF T1) vI=some (.cells 3 (.ints r1)):=by rw[Ba T1 (by omega)];exact xA
   have i0:(0=vI)=False:=zN (by omega);have i1:(1=vI)=False:=zN (by omega);have i2:(2=vI)=False:=zN (by omega);have qH:∀r,hset (fF T1) vI (.cells 3 (.ints r))=fF (kK T1 vI r):=fun r=>Yf T1 vI r (by omega);have Gi:(fun x=>if x=(cN m s.length L k:Int) then some (r1.set (dj k s.length) (r1.getD (dj k s.length) 0+1)) else f1 x)=de m s.length L (k+1):=by
    funext x;simp only[de];by_cases e:x=(cN m s.length L k:Int)
    ·rw[zM e,zM e,e,mC]
    ·rw[zL e,zL e,<-uP];simp only;rw[zL e]
   have bQ:=bC.e8 (r':=r1.set (dj k s.length) (r1.getD (dj k s.length) 0+1)) (by rw[<-uP];exact zM rfl) mI xA (by simpa using J4);rw[Gi]at bQ;have hTg1:∀q∈T1,hget (fF T1) q.1=some (.cells 3 (.ints q.2)):=fun q hq=>by
    have:=bC.low q hq
    rw[Ba T1 (by omega)];exact Bc bC.nd q hq
   have Gj:((s.length:Int)+1).toNat=s.length+1:=by omega
   have mc:=y34 (sK m s.length L k) (cN m s.length L k);have rA:(0:Int)=(dj k 0:Int):=rfl;cases hf:de m s.length L k (cN m s.length L k:Int)
   case' none=>
    have hl:=hT.no _ hf;rw[hf]at uR ln;simp only[Option.isSome_none,Bool.false_eq_true,if_false]at uR ln
    repeat' (first|omega|(try apply ah);simp only[go_sem,hB,q1,q2,q3,n0,n1,n2,m1,gC,hl,hfz]|apply ag<;>(intro h_;(try simp only[h_]);revert h_)|apply zO|with_reducible intro h_|trivial)
    rw[Gj,uR];refine dr.intro (fun n fr H=>∃c:Nat,c<=s.length/\n=s.length-c/\fr=[(66,I c),(65,I s.length),(10,I (dj k c)),(9,I (cN m s.length L k)),(7,.rp (.lst [I k]) 0),(43,I k),(42,I K),(6,I (sK m s.length L k)),(5,.mp 2),(4,I s.length),(2,.ptr 1 0),(1,.ptr 0 0)]/\H=tx s m L E1 T1) ?_ ?_
    ·refine⟨_,_,_,Wk.sub ?_ (LY bC ?_ ?_ ?_ ?_ ?_),0,by omega,rfl,rfl,rfl⟩
     ·simp only[go_sem,rA]
     ·simp only[go_sem,n0,n1,n2]
     ·simp only[go_sem,n0,n1,n2]
     ·simp only[go_sem,n0,n1,n2]
     ·simp only[hget];rw[zL (by omega),zL (by omega),zL (by omega),zL (by omega),zL (by omega)];exact Em hT.low
     ·intro q hq;rw[<-ln]at hq;rcases zzD.1 hq with rfl|hq
      ·simp[hget]
      ·have a1:=aC q hq;have a2:=hT.low q hq;simp only[hget];rw[zL (by omega),zL (by omega),zL (by omega),zL (by omega),zL (by omega)];exact Kl q hq
   case' some r=>
    obtain⟨id,hl,hg,hr⟩:=hT.yes _ _ hf;rw[hf]at uR ln;simp only[Option.isSome_some,if_true]at uR ln
    repeat' (first|omega|(try apply ah);simp only[go_sem,hB,q1,q2,q3,n0,n1,n2,m1,gC,hl,hfz]|apply ag<;>(intro h_;(try simp only[h_]);revert h_)|apply zO|with_reducible intro h_|trivial)
    rw[uR];refine dr.intro (fun n fr H=>∃c:Nat,c<=s.length/\n=s.length-c/\fr=[(66,I c),(65,I s.length),(10,I (dj k c)),(9,I (cN m s.length L k)),(7,.rp (.lst [I k]) 0),(43,I k),(42,I K),(6,I (sK m s.length L k)),(5,.mp 2),(4,I s.length),(2,.ptr 1 0),(1,.ptr 0 0)]/\H=tx s m L E1 T1) ?_ ?_
    ·refine⟨_,_,_,Wk.sub ?_ (LY bC ?_ ?_ ?_ ?_ ?_),0,by omega,rfl,rfl,rfl⟩
     ·simp only[go_sem,rA]
     ·simp only[go_sem,n0,n1,n2]
     ·simp only[go_sem,n0,n1,n2]
     ·simp only[go_sem,n0,n1,n2]
     ·simp only[hget];rw[zL (by omega),zL (by omega),zL (by omega),zL (by omega)];exact Em hT.low
     ·intro q hq;rw[<-ln]at hq;have a1:=aC q hq;have a2:=hT.low q hq;simp only[hget];rw[zL (by omega),zL (by omega),zL (by omega),zL (by omega)];exact Kl q hq
   all_goals
    rintro n fr H ⟨c,hc,rfl,rfl,rfl⟩;have cW:=zk k c;have e0:(k:Int)/2^c=((k/2^c:Nat):Int):=by simp
    have hdv:k/2^c<=k:=Nat.div_le_self _ _;have e1:=UU (k/2^c) (by omega);by_cases wz:c<s.length
    ·have e2:(dj k c:Int)+((k/2^c % 2:Nat):Int)=(dj k (c+1):Int):=by simp only[dj];omega
     repeat' (first|omega|(try apply ah);simp only[go_sem,e0,e1,e2,zD]|apply ag<;>(intro h_;(try simp only[h_]);revert h_)|apply zO|with_reducible intro h_|trivial)
     refine⟨_,_,_,?_,?_,⟨c+1,by omega,rfl,rfl,rfl⟩⟩
     ·omega
     ·refine Wk.sub ?_ (Su bC);simp only[go_sem]
    ·obtain rfl:c=s.length:=by omega
     repeat' (first|omega|(try apply ah);simp only[go_sem,zD,mI,DK,i0,i1,i2,qH,J4,mc]|apply ag<;>(intro h_;(try simp only[h_]);revert h_)|apply zO|with_reducible intro h_|trivial)
     refine⟨_,_,_,?_,?_,⟨k+1,E1,_,by omega,rfl,bQ,rfl,rfl⟩⟩
     ·omega
     ·refine Wk.sub ?_ (Su bQ);simp only[go_sem,sK]
  ·obtain rfl:k=K:=by omega
   repeat' (first|omega|(try apply ah);simp only[go_sem,hB,q1,q2,q3,n0,n1,n2,m1]|apply ag<;>(intro h_;(try simp only[h_]);revert h_)|apply zO|with_reducible intro h_|trivial)
   refine⟨aL.wO [B] rfl (by simp only[go_sem,hB,q1,q2,q3,n0,n1,n2,jY,hfz]) (by simp only[go_sem,hB,q1,q2,q3,n0,n1,n2,jY,hfz]) (by simp only[go_sem,hB,q1,q2,q3,n0,n1,n2,jY,hfz]) (by simp only[go_sem,hB,q1,q2,q3,n0,n1,n2,jY,hfz]) rfl rfl rfl (aL.fn rfl Zg ?_)⟩
   repeat' (first|omega|(try apply ah);simp only[go_sem,hB,q1,q2,q3,n0,n1,n2,m1,hfz]|apply ag<;>(intro h_;(try simp only[h_]);revert h_)|apply zO|with_reducible intro h_|trivial)
   have eB:(B+1=B)=False:=zN (by omega);have m2:(B+1+1<=B)=False:=zN (by omega);have m3:(B+1+1+1<=B+1+1)=False:=zN (by omega);have m4:(B=B+1)=False:=zN (by omega);have m5:(B=B+2)=False:=zN (by omega);have BU:yai [] (fF T)=fF T:=Ue T fun i hi=>by cases hi
   have dW:yai [B+1+1+1] (fF T)=fF T:=Ue T fun i hi=>by
    simp only[zP]at hi;subst hi;exact⟨by omega,fun q hq=>by have:=aC q hq;omega⟩
   have Kr:∀f:(Nat×AObj)->Bool,(∀i r,f (i,.cells 3 (.ints r))=true)->f (3,.gone)=true->(fF T).all f=true:=fun f=>y0l T;have Kl:∀q∈T,hget (fF T) q.1=some (.cells 3 (.ints q.2)):=fun q hq=>by
    have:=hT.low q hq
    rw[Ba T (by omega)];exact Bc hT.nd q hq
   refine dr.intro (fun n fr H=>∃(J:Nat) (P:List (Int×Int)) (x:AV),J<=sK m s.length L k/\n=J/\fe P (dF m s.length L (J+1))/\(x= .nils/\P=[]\/x= .ro 2 P.length (.lst (e9 P)))/\
    fr=[(14,I J),(13,.ptr (B+1+1) 0),(12,.ptr (B+1) 0),(5,.mp 2),(4,I s.length),(2,.ptr 1 0)]/\H=uj s m L E T B x) ?_ ?_
   ·refine⟨_,_,_,Wk.sub ?_ (Rn hT Ca aC (x:= .nils) (fun _=>rfl) ?_ ?_ ?_ ?_ ?_ ?_ ?_),sK m s.length L k,[],.nils,zA _,rfl,fe.nil.congr fun e=>?_,.inl ⟨rfl,rfl⟩,rfl,rfl⟩
    ·simp only[go_sem,eB,n0,n1,n2]
    ·simp only[go_sem,eB,n0,n1,n2,hB]
    ·simp only[go_sem,eB,n0,n1,n2,hB]
    ·simp only[go_sem,eB,n0,n1,n2]
    ·simp only[go_sem,eB,n0,n1,n2]
    ·simp only[go_sem,eB,n0,n1,n2]
    ·simp only[hget];rw[zL (by omega),zL (by omega),zL (by omega),zL (by omega),zL (by omega),zL (by omega)];exact Em hT.low
    ·intro q hq;have a1:=aC q hq;have a2:=hT.low q hq;simp only[hget];rw[zL (by omega),zL (by omega),zL (by omega),zL (by omega),zL (by omega),zL (by omega)];exact Kl q hq
    ·refine(y6s (fun k' Az=>?_) e).symm
     have:=SO m s.length L k k' (by omega)
     omega
   rintro J fr H ⟨J0,P,x,hJ,rfl,hP,hx,rfl,rfl⟩;by_cases hJ0:1<=J
   ·obtain⟨Q,hQ,Xd⟩:∃Q,fe Q (fE (dF m s.length L (J+1)))/\Fn Tryz.prog 24 [.agg [.bool false,x],plA false [(-2,-1),(2,-1)]] (plA false Q):=by
     rcases hx with ⟨rfl,rfl⟩|rfl
     ·refine⟨[],fe.nil.congr fun e=>?_,y3z _⟩;have h1:=hP.cf (e+2);have h2:=hP.cf (e-2);simp only[bM]at h1 h2;unfold fE;rw[<-h1,<-h2];rfl
     ·exact Zf hP (fun e he=>xa hp hs hL (by omega) he) (fun e=>by have:=IQ hp hs hL (j:=J+1) (by omega) e;omega) fun h=>Yz hp hs hP.asc hP.cf h
    have hmJ:(J:Int)<=1000:=by omega
    have Xh:((J-1:Nat):Int)=(J:Int)-1:=by omega
    have mv:∀e,dF m s.length L J e=fE (dF m s.length L (J+1)) e+yz (2^s.length) (cN m s.length L) (wB s.length) J e:=fun e=>SR J e;rw[<-hK]at mv;cases hf:de m s.length L k (J:Int)
    case' none=>
     have hl:=hT.no _ hf;have PL:fe Q (dF m s.length L (J-1+1)):=hQ.congr fun e=>by
      rw[show J-1+1=J by omega,mv,Xy hf];omega
     rcases hx with ⟨rfl,rfl⟩|rfl
     all_goals
      repeat' (first|omega|(try apply ah);simp only[go_sem,eB,n0,n1,n2,m1]|apply ag<;>(intro h_;(try simp only[h_]);revert h_)|apply zO|with_reducible intro h_|trivial)
      refine⟨aL.fn rfl Xd ?_⟩
      repeat' (first|omega|(try apply ah);simp only[go_sem,eB,n0,n1,n2,m1,hl]|apply ag<;>(intro h_;(try simp only[h_]);revert h_)|apply zO|with_reducible intro h_|trivial)
      refine dr.intro (fun n fr H=>n=0/\fr=[(103,I 0),(102,I 0),(14,I J),(13,.ptr (B+1+1) 0),(12,.ptr (B+1) 0),(5,.mp 2),(4,I s.length),(2,.ptr 1 0)]/\H=uj s m L E T B (.ro 2 Q.length (.lst (e9 Q)))) ?_ ?_
      ·refine⟨_,_,_,Wk.sub ?_ (ED hT Ca aC (fun _=>rfl)),rfl,rfl,rfl⟩;simp only[go_sem,eB,n0,n1,n2]
      rintro n fr H ⟨rfl,rfl,rfl⟩
      repeat' (first|omega|(try apply ah);simp only[go_sem,eB,n0,n1,n2,m1]|apply ag<;>(intro h_;(try simp only[h_]);revert h_)|apply zO|with_reducible intro h_|trivial)
      refine⟨_,_,_,?_,?_,⟨J-1,Q,_,by omega,rfl,PL,.inr rfl,rfl,rfl⟩⟩
      ·omega
      ·refine Wk.sub ?_ (ED hT Ca aC (fun _=>rfl));simp only[go_sem,eB,n0,n1,n2,Xh]
    case' some r=>
     obtain⟨id,hl,hg,hr⟩:=hT.yes _ _ hf;have WG:4<=id:=Ik hT (by rw[hg];rfl);have DK:hget (fF T) id=some (.cells 3 (.ints r)):=by rw[Ba T (by omega)];exact hg
     have hidB:id<B:=by rw[<-hB];exact Sv T id _ DK
     have i0:(0=id)=False:=zN (by omega);have i1:(1=id)=False:=zN (by omega);have i2:(2=id)=False:=zN (by omega);have i3:(B+1=id)=False:=zN (by omega);have i4:(B+1+1=id)=False:=zN (by omega);rcases hx with ⟨rfl,rfl⟩|rfl
     all_goals
      repeat' (first|omega|(try apply ah);simp only[go_sem,eB,n0,n1,n2,m1]|apply ag<;>(intro h_;(try simp only[h_]);revert h_)|apply zO|with_reducible intro h_|trivial)
      refine⟨aL.fn rfl Xd ?_⟩
      repeat' (first|omega|(try apply ah);simp only[go_sem,eB,n0,n1,n2,m1,hl]|apply ag<;>(intro h_;(try simp only[h_]);revert h_)|apply zO|with_reducible intro h_|trivial)
      refine dr.intro (fun n fr H=>∃(x:Nat) (R:List (Int×Int)),x<=s.length+1/\n=s.length+1-x/\fe R (fun e=>fE (dF m s.length L (J+1)) e+lU s.length r x e)/\
       fr=[(103,I x),(102,I (s.length+1:Nat)),(101,.sl 1 id 0 (s.length+1)),(14,I J),(13,.ptr (B+1+1) 0),(12,.ptr (B+1) 0),(5,.mp 2),(4,I s.length),(2,.ptr 1 0)]/\H=uj s m L E T B (.ro 2 R.length (.lst (e9 R)))) ?_ ?_
      ·refine⟨_,_,_,Wk.sub ?_ (ED hT Ca aC (fun _=>rfl)),0,Q,by omega,rfl,hQ.congr fun e=>by simp[lU,sm],rfl,rfl⟩;simp only[go_sem,eB,n0,n1,n2,DK,i0,i1,i2,i3,i4]
      rintro n fr H ⟨x,R,Wb,rfl,hR,rfl,rfl⟩;by_cases V9:x<s.length+1
      ·have hb:=Nb hf (x:=x) (by omega);have hTm:=y7f (r.getD x 0) ((s.length:Int)-2*x) (by omega) (by omega);obtain⟨R',hR',hA⟩:=ZM hR (Zt (r.getD x 0) ((s.length:Int)-2*x)) (fun e he=>by
        by_cases h1:fE (dF m s.length L (J+1)) e=0
        ·exact y31 hs Wb (e:=e) (fun h=>he (by rw[h1,h];rfl))
        ·by_cases h2:dF m s.length L (J+1) (e+2)=0
         ·by_cases h3:dF m s.length L (J+1) (e-2)=0
          ·exact zzA (by unfold fE;rw[h2,h3];rfl) h1
          ·have:=CZ hp h3
           omega
         ·have:=CZ hp h2
          omega) (fun e he=>by
        by_cases h1:e=(s.length:Int)-2*x
        ·omega
        ·exact zzA (zL h1) he) (fun e=>by
        have h1:=IQ hp hs hL (j:=J+1) (by omega) (e+2);have h2:=IQ hp hs hL (j:=J+1) (by omega) (e-2);have h3:=y30 hf (by omega) hs x Wb e;unfold fE;omega) (fun e=>by split<;>omega)
       have hR2:fe R' (fun e=>fE (dF m s.length L (J+1)) e+lU s.length r (x+1) e):=hR'.congr fun e=>by
        have:lU s.length r (x+1) e=lU s.length r x e+(if e=(s.length:Int)-2*x then r.getD x 0 else 0):=rfl
        omega
       have Ks:(E.all fun q=>s3 (uj s m L E T B (.ro 2 R.length (.lst (e9 R)))) q.2)=true:=Vf hT aC
       repeat' (first|omega|(first|apply ah|refine aw ZL ?_|skip);simp only[go_sem,hB,q1,q2,q3,eB,n0,n1,n2,m1,m2,m3,m4,m5,BU,dW,Kr,ybm,DK,i0,i1,i2,i3,i4,hr]|apply ag<;>(intro h_;(try simp only[h_]);revert h_)|apply zO|with_reducible intro h_|trivial)
       all_goals (try exact Ks)
       refine⟨dd.fn rfl hTm ?_⟩;simp only[go_sem,hB,q1,q2,q3,eB,n0,n1,n2,m1,m2,m3,m4,m5,BU,dW,Kr,ybm]
       try refine⟨Ks,?_⟩
       refine⟨dd.fn rfl hA ?_⟩;simp only[go_sem,hB,q1,q2,q3,eB,n0,n1,n2,m1,m2,m3,m4,m5,BU,dW,Kr,ybm]
       try refine⟨Ks,?_⟩
       repeat' (first|omega|(try apply ah);simp only[go_sem,hB,q1,q2,q3,eB,n0,n1,n2,m1,m2,m3,m4,m5,BU,dW,Kr,ybm]|apply ag<;>(intro h_;(try simp only[h_]);revert h_)|apply zO|with_reducible intro h_|trivial)
       all_goals (try exact Ks)
       refine⟨_,_,_,?_,?_,⟨x+1,R',by omega,rfl,hR2,rfl,rfl⟩⟩
       ·omega
       ·refine Wk.sub ?_ (ED hT Ca aC (fun _=>rfl));simp only[go_sem,eB,n0,n1,n2,DK,i0,i1,i2,i3,i4]
      ·obtain rfl:x=s.length+1:=by omega
       have PL:fe R (dF m s.length L (J-1+1)):=hR.congr fun e=>by
        rw[show J-1+1=J by omega,mv,y24 hf]
       repeat' (first|omega|(try apply ah);simp only[go_sem,eB,n0,n1,n2,m1]|apply ag<;>(intro h_;(try simp only[h_]);revert h_)|apply zO|with_reducible intro h_|trivial)
       refine⟨_,_,_,?_,?_,⟨J-1,R,_,by omega,rfl,PL,.inr rfl,rfl,rfl⟩⟩
       ·omega
       ·refine Wk.sub ?_ (ED hT Ca aC (fun _=>rfl));simp only[go_sem,eB,n0,n1,n2,Xh]
   ·obtain rfl:J=0:=by omega
    have W9:P=pD m s.length L:=hP.eq fun e he=>xa hp hs hL (by omega) he;rcases hx with ⟨rfl,hP0⟩|rfl
    all_goals
     repeat' (first|omega|(try apply ah);simp only[go_sem,eB,n0,n1,n2,m1,yhb]|apply ag<;>(intro h_;(try simp only[h_]);revert h_)|apply zO|with_reducible intro h_|trivial)
    ·rw[<-W9,hP0];exact aT.xY (.cons y0n (.cons (aT.refl _) .nil))
    ·rw[<-W9];exact aT.refl _
end Go.Proofs.YthohfoombimbeaaGreatDoor
