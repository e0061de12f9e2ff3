/- Layer 15, the reference: joined, Circles. -/
import Derived.Test.YtmdjdekgakidhaaGreatDoorZb
import Derived.Test.YtmdjdekgakidhaaGreatDoorZh
import Derived.Test.YtmdjdekgakidhaaGreatDoorZg
import Derived.Test.YtmdjdekgakidhaaGreatDoorZf
set_option linter.unusedSimpArgs false
set_option linter.unusedVariables false
namespace Go.Proofs.YtmdjdekgakidhaaGreatDoor
open Go Go.RowKit
set_option maxHeartbeats 8000000
set_option maxRecDepth 100000
theorem Wv (h:Int) (b:Bool) (h0:0<=h) (h1:h<=100000):Fn Tryz.prog 155 [I h, .bool b] (I (bO b h)):=by
 have t1:=Em h 1 h0 h1;have t2:=Em h (-1) h0 h1;have e:h.tmod 2=h % 2:=Int.tmod_eq_emod_of_nonneg h0;unfold bO;by_cases hp:h % 2=1
 ·have b1:(h % 2==1)=true:=by simpa using hp
  have b0:(h % 2==0)=false:=by rw [beq_eq_false_iff_ne];omega
  rw [decide_eq_true hp];cases b
  ·rw [if_neg (by simp)];refine Fn.intro [.tmp 4] Tryz.func155 rfl rfl (by decide) (by simp [Tryz.ntmps155]) ?_;rw [Tryz.ntmps155]
   repeat' (first|omega|(try apply ag);simp only [go_sem,sevalprocAttr,e,b0,b1]|apply ae<;>(intro h_;(try simp only [h_]);revert h_)|apply And.intro|with_reducible intro h_|trivial|simp only [go_sem,ah];omega)
   refine ⟨au.fn rfl t2 ?_⟩
   repeat' (first|omega|(try apply ag);simp only [go_sem,sevalprocAttr]|apply ae<;>(intro h_;(try simp only [h_]);revert h_)|apply And.intro|with_reducible intro h_|trivial|simp only [go_sem,ah];omega)
  ·rw [if_pos rfl];refine Fn.intro [.tmp 4] Tryz.func155 rfl rfl (by decide) (by simp [Tryz.ntmps155]) ?_;rw [Tryz.ntmps155]
   repeat' (first|omega|(try apply ag);simp only [go_sem,sevalprocAttr,e,b0,b1]|apply ae<;>(intro h_;(try simp only [h_]);revert h_)|apply And.intro|with_reducible intro h_|trivial|simp only [go_sem,ah];omega)
   refine ⟨au.fn rfl t1 ?_⟩
   repeat' (first|omega|(try apply ag);simp only [go_sem,sevalprocAttr]|apply ae<;>(intro h_;(try simp only [h_]);revert h_)|apply And.intro|with_reducible intro h_|trivial|simp only [go_sem,ah];omega)
 ·have b1:(h % 2==1)=false:=by rw [beq_eq_false_iff_ne];exact hp
  have b0:(h % 2==0)=true:=by rw [beq_iff_eq];omega
  rw [decide_eq_false hp];cases b
  ·rw [if_pos rfl];refine Fn.intro [.tmp 4] Tryz.func155 rfl rfl (by decide) (by simp [Tryz.ntmps155]) ?_;rw [Tryz.ntmps155]
   repeat' (first|omega|(try apply ag);simp only [go_sem,sevalprocAttr,e,b0,b1]|apply ae<;>(intro h_;(try simp only [h_]);revert h_)|apply And.intro|with_reducible intro h_|trivial|simp only [go_sem,ah];omega)
   refine ⟨au.fn rfl t1 ?_⟩
   repeat' (first|omega|(try apply ag);simp only [go_sem,sevalprocAttr]|apply ae<;>(intro h_;(try simp only [h_]);revert h_)|apply And.intro|with_reducible intro h_|trivial|simp only [go_sem,ah];omega)
  ·rw [if_neg (by simp)];refine Fn.intro [.tmp 4] Tryz.func155 rfl rfl (by decide) (by simp [Tryz.ntmps155]) ?_;rw [Tryz.ntmps155]
   repeat' (first|omega|(try apply ag);simp only [go_sem,sevalprocAttr,e,b0,b1]|apply ae<;>(intro h_;(try simp only [h_]);revert h_)|apply And.intro|with_reducible intro h_|trivial|simp only [go_sem,ah];omega)
   refine ⟨au.fn rfl t2 ?_⟩
   repeat' (first|omega|(try apply ag);simp only [go_sem,sevalprocAttr]|apply ae<;>(intro h_;(try simp only [h_]);revert h_)|apply And.intro|with_reducible intro h_|trivial|simp only [go_sem,ah];omega)
abbrev iQ (m:List Int) (x:Int):Int:=m.getD x.toNat 0
abbrev ij (st:List Bool) (x:Int):Int:=bO (st.getD (x/4).toNat false) x
def qp (N k:Nat):List Int:=(List.range N).map fun x=>if x<k then (-1:Int) else 0
theorem MV (N k:Nat):(qp N k).length=N:=by simp [qp]
theorem Bd (N:Nat):qp N 0=List.replicate N 0:=by
 apply List.ext_getElem?;intro i;by_cases h:i<N<;>simp [qp,h]
theorem J2 (N k:Nat) (h:k<N):(qp N k).set k (-1)=qp N (k+1):=by
 apply List.ext_getElem?;intro i;rw [List.getElem?_set,MV];by_cases e:k=i
 ·subst e;simp [qp,h]
 ·rw [if_neg e];by_cases hi:i<N
  ·simp only [qp,List.getElem?_map,List.getElem?_range hi,Option.map_some];by_cases h2:i<k
   ·rw [if_pos h2,if_pos (by omega)]
   ·rw [if_neg h2,if_neg (by omega)]
  ·simp [qp,hi]
theorem Vc (N:Nat):qp N N=List.replicate N (-1):=by
 apply List.ext_getElem?;intro i;by_cases h:i<N<;>simp [qp,h]
theorem MU (mt jn:Int->Int) (h:Int): ∀f out g,(crW mt jn h f out g).length=out.length
 |0,_,_=>rfl
 |f+1,out,g=>by
  simp only [crW];split
  ·rw [MU];simp
  ·rfl
theorem DH (mt jn:Int->Int) (N:Nat): ∀k,(crN mt jn N k).length=N
 |0=>by simp [crN]
 |k+1=>by
  simp only [crN];split
  ·exact DH mt jn N k
  ·rw [MU];exact DH mt jn N k
theorem Um (l:List Int) (i:Nat) (h:Int) (h0:0<=h):fU (l.set i h)<=fU l:=by
 unfold fU
 induction l generalizing i with
 |nil=>simp
 |cons x l ih=>
  cases i with
  |zero=>
   simp only [List.set_cons_zero,List.countP_cons,decide_eq_true_eq];rw [if_neg (show¬h<0 by omega)];omega
  |succ i=>
   simp only [List.set_cons_succ,List.countP_cons]
   have:=ih i
   omega
theorem Ud (s m:List Int) (L:Int) (st:List Bool) (hs:s.length<=1000) (hm:iN m s.length) (aY:st.length=s.length):
  Fn Tryz.prog 142 [dgA s m L,roB st] (roI (crN (iQ m) (ij st) m.length m.length)):=by
 have fv:=hm.1;refine Fn.ai [.tmp 4] Tryz.func142 rfl rfl (by decide) (by simp [Tryz.ntmps142]) ?_;rw [Tryz.ntmps142]
 repeat' (first|omega|(try apply ag);simp only [go_sem,sevalprocAttr]|apply ae<;>(intro h_;(try simp only [h_]);revert h_)|apply And.intro|with_reducible intro h_|trivial|simp only [go_sem,ah];omega)
 refine aR.intro (fun n fr H=> ∃k:Nat,k<=m.length/\n=m.length-k/\fr=[(6,I k),(5, .sl 1 1 0 m.length),(2, .ptr 0 0),(1,roB st)]/\H=[(1, .cells 3 (.ints (qp m.length k))),(0, .cells 24 (.lst [roI s,roI m,I L]))]) ?_ ?_
 ·refine ⟨_,_,_,?_,0,by omega,rfl,rfl,rfl⟩;rw [Bd];refine Wk.sub ?_ ?_<;>simp only [go_sem,sevalprocAttr]
  all_goals simp_all
 rintro n fr H ⟨k,hk,rfl,rfl,rfl⟩;have il:=MV m.length k;by_cases bM:k<m.length
 ·repeat' (first|omega|(try apply ag);simp only [go_sem,sevalprocAttr]|apply ae<;>(intro h_;(try simp only [h_]);revert h_)|apply And.intro|with_reducible intro h_|trivial|simp only [go_sem,ah];omega)
  rw [J2 m.length k bM];refine ⟨_,_,_,?_,?_,⟨k+1,by omega,rfl,rfl,rfl⟩⟩
  ·omega
  ·refine Wk.sub ?_ ?_<;>simp only [go_sem,sevalprocAttr]
   all_goals simp_all
 obtain rfl:k=m.length:=by omega
 repeat' (first|omega|(try apply ag);simp only [go_sem,sevalprocAttr]|apply ae<;>(intro h_;(try simp only [h_]);revert h_)|apply And.intro|with_reducible intro h_|trivial|simp only [go_sem,ah];omega)
 refine aR.intro (fun n fr H=> ∃k:Nat,k<=m.length/\n=m.length-k/\fr=[(7,I k),(5, .sl 1 1 0 m.length),(2, .ptr 0 0),(1,roB st)]/\H=[(1, .cells 3 (.ints (crN (iQ m) (ij st) m.length k))),(0, .cells 24 (.lst [roI s,roI m,I L]))]) ?_ ?_
 ·refine ⟨_,_,_,?_,0,by omega,rfl,rfl,rfl⟩;rw [Vc];refine Wk.sub ?_ ?_<;>simp only [go_sem,sevalprocAttr]
  all_goals simp_all [crN]
 clear hk il bM;rintro n fr H ⟨k,hk,rfl,rfl,rfl⟩;have cl:=DH (iQ m) (ij st) m.length k;by_cases bM:k<m.length
 ·by_cases j8:0<=(crN (iQ m) (ij st) m.length k).getD k 0
  ·have b0:decide (0<=(crN (iQ m) (ij st) m.length k).getD k 0)=true:=by simpa using j8
   have eC:crN (iQ m) (ij st) m.length (k+1)=crN (iQ m) (ij st) m.length k:=by simp only [crN,if_pos j8]
   repeat' (first|omega|(try apply ag);simp only [go_sem,sevalprocAttr,b0]|apply ae<;>(intro h_;(try simp only [h_]);revert h_)|apply And.intro|with_reducible intro h_|trivial|simp only [go_sem,ah];omega)
   refine ⟨_,_,_,?_,?_,⟨k+1,by omega,rfl,rfl,rfl⟩⟩
   ·omega
   ·rw [eC];refine Wk.sub ?_ ?_<;>simp only [go_sem,sevalprocAttr]
    all_goals simp_all
  ·have b0:decide (0<=(crN (iQ m) (ij st) m.length k).getD k 0)=false:=by simpa using j8
   have eC:crN (iQ m) (ij st) m.length (k+1)=crW (iQ m) (ij st) k (m.length+1) (crN (iQ m) (ij st) m.length k) k:=by simp only [crN,if_neg j8]
   generalize crN (iQ m) (ij st) m.length k=C at*;have Lv:=GR C
   repeat' (first|omega|(try apply ag);simp only [go_sem,sevalprocAttr,b0]|apply ae<;>(intro h_;(try simp only [h_]);revert h_)|apply And.intro|with_reducible intro h_|trivial|simp only [go_sem,ah];omega)
   refine aR.intro (fun n fr H=> ∃(out:List Int) (g f:Nat),out.length=m.length/\g<m.length/\n=fU out/\fU out<f/\crW (iQ m) (ij st) k f out g=crN (iQ m) (ij st) m.length (k+1)/\fr=[(8,I g),(7,I k),(5, .sl 1 1 0 m.length),(2, .ptr 0 0),(1,roB st)]/\H=[(1, .cells 3 (.ints out)),(0, .cells 24 (.lst [roI s,roI m,I L]))]) ?_ ?_
   ·refine ⟨_,_,_,?_,C,k,m.length+1,cl,bM,rfl,by omega,eC.symm,rfl,rfl⟩;refine Wk.sub ?_ ?_<;>simp only [go_sem,sevalprocAttr]
    all_goals simp_all
   rintro n fr H ⟨out,g,f,ol,hg,rfl,hf,hW,rfl,rfl⟩;obtain ⟨f,rfl⟩: ∃f',f=f'+1:=⟨f-1,by omega⟩;by_cases im:out.getD g 0<0
   ·have b1:decide (out.getD g 0<0)=true:=by simpa using im
    have l5:=hm.2 g (by omega);obtain ⟨y,hy⟩: ∃y:Nat,m.getD g 0=y:=⟨(m.getD g 0).toNat,by omega⟩;rw [hy] at l5;have hq:((y:Int)).tdiv 4=((y/4:Nat):Int):=by rw [sG (by omega)];omega
    have hJ:=Wv y (st.getD (y/4) false) (by omega) (by omega);have Fe:=wx (st.getD (y/4) false) y;obtain ⟨z,vz⟩: ∃z:Nat,bO (st.getD (y/4) false) y=z:=⟨(bO (st.getD (y/4) false) y).toNat,by omega⟩;rw [vz] at hJ Fe;have Mf:crW (iQ m) (ij st) k (f+1) out g=crW (iQ m) (ij st) k f ((out.set g k).set y k) z:=by
     have e1:iQ m g=y:=by simp only [iQ,zzC];exact hy
     have e2:ij st (y:Int)=z:=by simp only [ij];rw [show ((y:Int)/4).toNat=y/4 by omega];exact vz
     simp only [crW,zzC];rw [if_pos im,e1,e2,zzC]
    rw [Mf] at hW;have mQ:=Eg (l:=out) (i:=g) (p:=(k:Int)) (by omega) im (by omega);have gC:=Um (out.set g k) y k (by omega)
    repeat' (first|omega|(try apply ag);simp only [go_sem,sevalprocAttr,b1,hy,hq]|apply ae<;>(intro h_;(try simp only [h_]);revert h_)|apply And.intro|with_reducible intro h_|trivial|simp only [go_sem,ah];omega)
    refine ⟨au.fn rfl hJ ?_⟩
    repeat' (first|omega|(try apply ag);simp only [go_sem,sevalprocAttr]|apply ae<;>(intro h_;(try simp only [h_]);revert h_)|apply And.intro|with_reducible intro h_|trivial|simp only [go_sem,ah];omega)
    refine ⟨_,_,_,?_,?_,⟨(out.set g k).set y k,z,f,by simp [ol],by omega,rfl,by omega,hW,rfl,rfl⟩⟩
    ·omega
    ·refine Wk.sub ?_ ?_<;>simp only [go_sem,sevalprocAttr]
     all_goals simp_all
   ·have b1:decide (out.getD g 0<0)=false:=by simpa using im
    have Mf:crW (iQ m) (ij st) k (f+1) out g=out:=by
     simp only [crW,zzC];rw [if_neg im]
    rw [Mf] at hW
    repeat' (first|omega|(try apply ag);simp only [go_sem,sevalprocAttr,b1]|apply ae<;>(intro h_;(try simp only [h_]);revert h_)|apply And.intro|with_reducible intro h_|trivial|simp only [go_sem,ah];omega)
    refine ⟨_,_,_,?_,?_,⟨k+1,by omega,rfl,rfl,rfl⟩⟩
    ·omega
    ·rw [←hW];refine Wk.sub ?_ ?_<;>simp only [go_sem,sevalprocAttr]
     all_goals simp_all
 ·obtain rfl:k=m.length:=by omega
  repeat' (first|omega|(try apply ag);simp only [go_sem,sevalprocAttr]|apply ae<;>(intro h_;(try simp only [h_]);revert h_)|apply And.intro|with_reducible intro h_|trivial|simp only [go_sem,ah];omega)
  all_goals exact az.of (by rw [cl,List.take_of_length_le (by omega)])
def rtN (R:List Int):Nat->Nat
 |0=>0
 |k+1=>rtN R k+if R.getD k 0=(k:Int) then 1 else 0
theorem Rp (R:List Int): ∀k,rtN R k=(List.range k).countP fun x=>R.getD x 0==(x:Int)
 |0=>rfl
 |k+1=>by
  rw [List.range_succ,List.countP_append,←Rp R k];simp only [rtN,List.countP_cons,List.countP_nil,beq_iff_eq];omega
theorem Ro (R:List Int): ∀k,rtN R k<=k
 |0=>zzA _
 |k+1=>by have:=Ro R k;simp only [rtN];split<;>omega
theorem Wu (s m:List Int) (L:Int) (st:List Bool) (hs:s.length<=1000) (hL:0<=L/\L<=1000) (hm:iN m s.length) (aY:st.length=s.length):
  Fn Tryz.prog 106 [dgA s m L,roB st] (I ((roots (crN (iQ m) (ij st) m.length m.length):Int)+L)):=by
 have hC:=Ud s m L st hs hm aY;have cl:=DH (iQ m) (ij st) m.length m.length;have fv:=hm.1;have Yj:roots (crN (iQ m) (ij st) m.length m.length)=rtN (crN (iQ m) (ij st) m.length m.length) m.length:=by rw [Rp,roots,cl]
 rw [Yj];generalize crN (iQ m) (ij st) m.length m.length=R at*;refine Fn.ai [.tmp 4] Tryz.func106 rfl rfl (by decide) (by simp [Tryz.ntmps106]) ?_;rw [Tryz.ntmps106]
 repeat' (first|omega|(try apply ag);simp only [go_sem,sevalprocAttr]|apply ae<;>(intro h_;(try simp only [h_]);revert h_)|apply And.intro|with_reducible intro h_|trivial|simp only [go_sem,ah];omega)
 refine ⟨au.fn rfl hC ?_⟩
 repeat' (first|omega|(try apply ag);simp only [go_sem,sevalprocAttr]|apply ae<;>(intro h_;(try simp only [h_]);revert h_)|apply And.intro|with_reducible intro h_|trivial|simp only [go_sem,ah];omega)
 refine aR.intro (fun n fr H=> ∃k:Nat,k<=R.length/\n=R.length-k/\fr=[(7,I k),(6,I ((rtN R k:Int)+L)),(5,roI R)]/\H=[]) ?_ ?_
 ·refine ⟨_,_,_,?_,0,by omega,rfl,rfl,rfl⟩;refine Wk.sub ?_ ?_<;>simp only [go_sem,sevalprocAttr]
  all_goals simp_all [rtN]
 rintro n fr H ⟨k,hk,rfl,rfl,rfl⟩;have hle:=Ro R k;by_cases bM:k<R.length
 ·by_cases hq:R.getD k 0=(k:Int)
  ·have b0:(R.getD k 0==(k:Int))=true:=by simpa using hq
   have e1:(rtN R k:Int)+L+1=(rtN R (k+1):Int)+L:=by simp only [rtN,if_pos hq];omega
   repeat' (first|omega|(try apply ag);simp only [go_sem,sevalprocAttr,b0,e1]|apply ae<;>(intro h_;(try simp only [h_]);revert h_)|apply And.intro|with_reducible intro h_|trivial|simp only [go_sem,ah];omega)
   refine ⟨_,_,_,?_,?_,⟨k+1,by omega,rfl,rfl,rfl⟩⟩
   ·omega
   ·refine Wk.sub ?_ ?_<;>simp only [go_sem,sevalprocAttr]
    all_goals simp_all
  ·have b0:(R.getD k 0==(k:Int))=false:=by rw [beq_eq_false_iff_ne];exact hq
   have e1:rtN R (k+1)=rtN R k:=by simp only [rtN,if_neg hq];rfl
   repeat' (first|omega|(try apply ag);simp only [go_sem,sevalprocAttr,b0]|apply ae<;>(intro h_;(try simp only [h_]);revert h_)|apply And.intro|with_reducible intro h_|trivial|simp only [go_sem,ah];omega)
   refine ⟨_,_,_,?_,?_,⟨k+1,by omega,rfl,rfl,rfl⟩⟩
   ·omega
   ·rw [e1];refine Wk.sub ?_ ?_<;>simp only [go_sem,sevalprocAttr]
    all_goals simp_all
 ·obtain rfl:k=R.length:=by omega
  repeat' (first|omega|(try apply ag);simp only [go_sem,sevalprocAttr]|apply ae<;>(intro h_;(try simp only [h_]);revert h_)|apply And.intro|with_reducible intro h_|trivial|simp only [go_sem,ah];omega)
  all_goals exact az.of (by rw [cl])
def mu (b N k:Nat):List Bool:=(List.range N).map fun x=>if x<k then e9 b x else false
theorem DG (b N k:Nat):(mu b N k).length=N:=by simp [mu]
theorem AR (b N:Nat):mu b N 0=List.replicate N false:=by
 apply List.ext_getElem?;intro i;by_cases h:i<N<;>simp [mu,h]
theorem J1 (b N k:Nat) (h:k<N):(mu b N k).set k (e9 b k)=mu b N (k+1):=by
 apply List.ext_getElem?;intro i;rw [List.getElem?_set,DG];by_cases e:k=i
 ·subst e;simp [mu,h]
 ·rw [if_neg e];by_cases hi:i<N
  ·simp only [mu,List.getElem?_map,List.getElem?_range hi,Option.map_some];by_cases h2:i<k
   ·rw [if_pos h2,if_pos (by omega)]
   ·rw [if_neg h2,if_neg (by omega)]
  ·simp [mu,hi]
theorem MT {b N c:Nat} (h:c<N):(mu b N N).getD c false=e9 b c:=by
 simp [mu,zzB,h]
theorem VL (n b:Nat) (hn:n<=60) (hb:b<=100000):Fn Tryz.prog 105 [I n,I b] (roB (mu b n n)):=by
 refine Fn.ai [.tmp 4] Tryz.func105 rfl rfl (by decide) (by simp [Tryz.ntmps105]) ?_;rw [Tryz.ntmps105]
 repeat' (first|omega|(try apply ag);simp only [go_sem,sevalprocAttr]|apply ae<;>(intro h_;(try simp only [h_]);revert h_)|apply And.intro|with_reducible intro h_|trivial|simp only [go_sem,ah];omega)
 refine aR.intro (fun t fr H=> ∃k:Nat,k<=n/\t=n-k/\fr=[(6,I k),(5, .sl 1 0 0 n),(1,I b),(0,I n)]/\H=[(0, .cells 4 (.bools (mu b n k)))]) ?_ ?_
 ·refine ⟨_,_,_,?_,0,by omega,rfl,rfl,rfl⟩;rw [AR];refine Wk.sub ?_ ?_<;>simp only [go_sem,sevalprocAttr]
  all_goals simp_all
 rintro t fr H ⟨k,hk,rfl,rfl,rfl⟩;have il:=DG b n k;by_cases bM:k<n
 ·have e0:(b:Int)/2^k=((b/2^k:Nat):Int):=by simp
  have ax:b/2^k<=b:=Nat.div_le_self _ _;have e3:((b/2^k:Nat):Int).tmod 2=((b/2^k % 2:Nat):Int):=by
   generalize b/2^k=y;rw [zU (by omega)];omega
  have e2:(((b/2^k % 2:Nat):Int)==1)=e9 b k:=by
   unfold e9;by_cases h:b/2^k % 2=1
   ·simp [h]
   ·have:((b/2^k % 2:Nat):Int)≠1:=by omega
    rw [beq_eq_false_iff_ne.2 this,beq_eq_false_iff_ne.2 h]
  have bk:decide ((k:Int)<n)=true:=by simp;omega
  repeat' (first|omega|(try apply ag);simp only [go_sem,sevalprocAttr,bk,e0,e2,e3,zzC,il]|apply ae<;>(intro h_;(try simp only [h_]);revert h_)|apply And.intro|with_reducible intro h_|trivial|simp only [go_sem,ah];omega)
  rw [J1 b n k bM];refine ⟨_,_,_,?_,?_,⟨k+1,by omega,rfl,rfl,rfl⟩⟩
  ·omega
  ·refine Wk.sub ?_ ?_<;>simp only [go_sem,sevalprocAttr]
   all_goals simp_all
 ·obtain rfl:k=n:=by omega
  have bk:decide ((k:Int)<k)=false:=by simp
  repeat' (first|omega|(try apply ag);simp only [go_sem,sevalprocAttr,bk,il]|apply ae<;>(intro h_;(try simp only [h_]);revert h_)|apply And.intro|with_reducible intro h_|trivial|simp only [go_sem,ah];omega)
  all_goals (rw [List.take_of_length_le (by omega)];exact az.of (by simp [il]))
def De:List (List Nat):=[[85,86,87,88,89,90,91,92,93,94,95],[84,86,87,89,90,92,93],[84,85,89,90,92,93],[84,85,89,90,92,93],[84,89,90,92,93],[84,85,86,87,88,92,93],[84,85,86,87,88,92,93],[84,92,93],[84,85,86,87,88,89,90,91],[84,85,86,87,88,89,90,91],[84],[84],[],[]]
def Dd:List (List Nat):=[[],[0],[0,1],[0,1],[0],[0,1,2,3,4],[0,1,2,3,4],[0],[0,1,2,3,4,5,6,7],[0,1,2,3,4,5,6,7],[0],[0],[],[]]
def tN (st:List Bool) (c:Nat):Bool:=st.getD c false
theorem Wt {s m:List Int} {L:Int} (hv:cX s m L=true) (st:List Bool):roots (gj m (tN st) s.length)=roots (crN (iQ m) (ij st) m.length m.length):=by
 have v1:=jb hv;have hp:=v1.prd;have h1:=FG (ch:=tN st) hp.ok (fun x hx=>hp.inv x hx) (fun x hx=>(v1.mt x hx).2.2.1);have h2:=uJ (tG hp.ok (fun x hx=>hp.inv x hx) (fun x hx=>(v1.mt x hx).2.2.1) (tN st));rw [←v1.len] at h2;exact yy h1 h2
theorem Uc (s m:List Int) (L k:Nat) (hv:cX s m L=true) (hs:s.length<=9) (hL:L<=10):Fn Tryz.prog 106 [dgA s m L,roB (mu k s.length s.length)] (I (cN m s.length L k)):=by
 have v1:=jb hv;have h:=Wu s m L (mu k s.length s.length) (by omega) ⟨by omega,by omega⟩ v1.prd.ok (DG _ _ _);rw [←Wt hv,As (ch:=tN (mu k s.length s.length)) (ch':=e9 k) fun c hc=>MT hc] at h;have e:((roots (gj m (e9 k) s.length):Nat):Int)+(L:Int)=(cN m s.length L k:Int):=by unfold cN bT;omega
 rw [e] at h;exact h
theorem VK (k c:Nat):bY k (c+1)=if e9 k c then bY k c+1 else bY k c:=by
 simp only [bY,e9];by_cases h:k/2^c % 2=1
 ·simp [h]
 ·have:k/2^c % 2=0:=by omega
  simp [this]
theorem Ul (s m:List Int) (L:Nat) (hv:cX s m L=true) (hs:s.length<=9) (hL:L<=10):Fn Tryz.prog 68 [dgA s m L] (rpA (kE m s.length L)):=by
 have hp:=dI hv;obtain ⟨Q,hQ⟩: ∃Q,Q=2*s.length+L+1:=⟨_,rfl⟩;obtain ⟨M,hM⟩: ∃M,M=(s.length+1)*(2*s.length+L+2):=⟨_,rfl⟩;have TC:M<=300:=by
  have:=Nat.mul_le_mul (show s.length+1<=10 by omega) (show 2*s.length+L+2<=30 by omega)
  omega
 obtain ⟨K,hK⟩: ∃K,K=2^s.length:=⟨_,rfl⟩;have hK5:K<=512:=by
  have:=FV hs
  rw [show (2:Nat)^9=512 by decide] at this;omega
 have e1:2*(s.length:Int)+(L:Int)=(Q:Int)-1:=by omega
 have Zw:(Q:Int)-1+1=Q:=by omega
 have e2:((s.length:Int)+1)*((Q:Int)+1)=(M:Int):=by
  rw [hM,show 2*s.length+L+2=Q+1 by omega];simp
 have e3:(2:Int)^s.length=(K:Int):=by rw [hK];simp
 refine Fn.ai [.cell 2 49] Tryz.func68 rfl rfl (by decide) (by simp [Tryz.ntmps68]) ?_;rw [Tryz.ntmps68]
 repeat' (first|omega|(try apply ag);simp only [go_sem,sevalprocAttr]|apply ae<;>(intro h_;(try simp only [h_]);revert h_)|apply And.intro|with_reducible intro h_|trivial|simp only [go_sem,ah];omega)
 refine ⟨au.fn rfl NW ?_⟩
 repeat' (first|omega|(try apply ag);simp only [go_sem,sevalprocAttr,e1,Zw,e2,zzC]|apply ae<;>(intro h_;(try simp only [h_]);revert h_)|apply And.intro|with_reducible intro h_|trivial|simp only [go_sem,ah];omega)
 refine aR.intro (fun n fr H=> ∃k:Nat,k<=K/\n=K-k/\fr=[(7,I k),(6, .sl 1 3 0 M),(5,I Q),(4, .ptr 2 0),(3,I s.length),(2, .ptr 1 0),(1, .ptr 0 0)]/\H=[(3, .cells 3 (.ints (dT m s.length L k))),(2, .cells 49 (.lst [tmA [], .bool false])),(1, .cells 49 (.lst [.nils, .bool false])),(0, .cells 24 (.lst [roI s,roI m,I L]))]) ?_ ?_
 ·refine ⟨_,_,_,?_,0,by omega,rfl,rfl,rfl⟩;rw [IX,←hM];refine Wk.sub ?_ ?_<;>(simp only [go_sem,sevalprocAttr,yaj])
 rintro n fr H ⟨k,hk,rfl,rfl,rfl⟩;have tl:=OT m s.length L k;rw [←hM] at tl;by_cases bM:k<K
 ·have bk:decide ((k:Int)<K)=true:=by simp;omega
  have Y6:=VL s.length k (by omega) (by omega);have Zf:=Uc s m L k hv hs hL
  repeat' (first|omega|(try apply ag);simp only [go_sem,sevalprocAttr,bk,e3,zzC,Int.one_mul]|apply ae<;>(intro h_;(try simp only [h_]);revert h_)|apply And.intro|with_reducible intro h_|trivial|simp only [go_sem,ah];omega)
  refine ⟨au.fn rfl Y6 ?_⟩
  repeat' (first|omega|(try apply ag);simp only [go_sem,sevalprocAttr,e3]|apply ae<;>(intro h_;(try simp only [h_]);revert h_)|apply And.intro|with_reducible intro h_|trivial|simp only [go_sem,ah];omega)
  refine aR.intro (fun n fr H=> ∃c:Nat,c<=s.length/\n=s.length-c/\fr=[(10,I c),(9,I (bY k c)),(8,roB (mu k s.length s.length)),(7,I k),(6, .sl 1 3 0 M),(5,I Q),(4, .ptr 2 0),(3,I s.length),(2, .ptr 1 0),(1, .ptr 0 0)]/\H=[(3, .cells 3 (.ints (dT m s.length L k))),(2, .cells 49 (.lst [tmA [], .bool false])),(1, .cells 49 (.lst [.nils, .bool false])),(0, .cells 24 (.lst [roI s,roI m,I L]))]) ?_ ?_
  ·refine ⟨_,_,_,?_,0,by omega,rfl,rfl,rfl⟩;refine Wk.sub ?_ ?_<;>(simp only [go_sem,sevalprocAttr,yaj,bY])
  rintro n fr H ⟨c,hc,rfl,rfl,rfl⟩;by_cases b5:c<s.length
  ·have bc:decide ((c:Int)<s.length)=true:=by simp;omega
   have hg:=MT (b:=k) b5;have dL:=DG k s.length s.length;have pH:=VK k c;have xg:=Ac k c;cases lf:e9 k c with
   |false=>
    rw [lf] at hg pH;rw [if_neg (by simp)] at pH
    repeat' (first|omega|(try apply ag);simp only [go_sem,sevalprocAttr,bc,hg,dL]|apply ae<;>(intro h_;(try simp only [h_]);revert h_)|apply And.intro|with_reducible intro h_|trivial|simp only [go_sem,ah];omega)
    refine ⟨_,_,_,?_,?_,⟨c+1,by omega,rfl,rfl,rfl⟩⟩
    ·omega
    ·rw [pH];refine Wk.sub ?_ ?_<;>(simp only [go_sem,sevalprocAttr,yaj])
   |true=>
    rw [lf] at hg pH;rw [if_pos rfl] at pH
    repeat' (first|omega|(try apply ag);simp only [go_sem,sevalprocAttr,bc,hg,dL]|apply ae<;>(intro h_;(try simp only [h_]);revert h_)|apply And.intro|with_reducible intro h_|trivial|simp only [go_sem,ah];omega)
    refine ⟨_,_,_,?_,?_,⟨c+1,by omega,rfl,rfl,rfl⟩⟩
    ·omega
    ·rw [pH];refine Wk.sub ?_ ?_<;>(simp only [go_sem,sevalprocAttr,yaj])
  ·obtain rfl:c=s.length:=by omega
   have bc:decide ((s.length:Int)<s.length)=false:=by simp
   have b5:=Ac k s.length;have LW:=zo hp (L:=L) k;have hI:=tL (W:=2*s.length+L+2) b5 (show cN m s.length L k<2*s.length+L+2 by omega);rw [←hM] at hI;have hset:=Vs hp (L:=L) k;obtain ⟨J,hJ⟩: ∃J,J=bY k s.length*(2*s.length+L+2):=⟨_,rfl⟩;have e4:(bY k s.length:Int)*((Q:Int)+1)=(J:Int):=by rw [hJ,show 2*s.length+L+2=Q+1 by omega];simp
   rw [←hJ] at hI hset;have Cd:0<=(dT m s.length L k).getD (J+cN m s.length L k) 0/\(dT m s.length L k).getD (J+cN m s.length L k) 0<=1000:=by
    have h1:=OS hp (L:=L) k b5 (show cN m s.length L k<=2*s.length+L+1 by omega);rw [←hJ] at h1;rw [h1]
    have:=Gx m s.length L (bY k s.length) (cN m s.length L k) k
    omega
   obtain ⟨Z,hZ⟩: ∃Z,Z=J+cN m s.length L k:=⟨_,rfl⟩;have e5:(J:Int)+(cN m s.length L k:Int)=(Z:Int):=by omega
   rw [←hZ] at hI hset Cd;generalize cN m s.length L k=z at*;generalize bY k s.length=y at*
   repeat' (first|omega|(try apply ag);simp only [go_sem,sevalprocAttr,bc,e4]|apply ae<;>(intro h_;(try simp only [h_]);revert h_)|apply And.intro|with_reducible intro h_|trivial|simp only [go_sem,ah];omega)
   refine ⟨au.fn rfl Zf ?_⟩
   repeat' (first|omega|(try apply ag);simp only [go_sem,sevalprocAttr,e4,e5,tl,hset,zzC]|apply ae<;>(intro h_;(try simp only [h_]);revert h_)|apply And.intro|with_reducible intro h_|trivial|simp only [go_sem,ah];omega)
   refine ⟨_,_,_,?_,?_,⟨k+1,by omega,rfl,rfl,rfl⟩⟩
   ·omega
   ·refine Wk.sub ?_ ?_<;>(simp only [go_sem,sevalprocAttr,yaj])
 obtain rfl:k=K:=by omega
 have bk:decide ((k:Int)<k)=false:=by simp
 have Y5: ∀b c,b<=s.length->c<=Q->(dT m s.length L k).getD (b*(2*s.length+L+2)+c) 0=lO m s.length L k b c:=fun b c hb hc=>OS hp k hb (by omega);have Mi: ∀b c,0<=lO m s.length L k b c/\lO m s.length L k b c<=512:=fun b c=>by rw [hK];exact Q8 hs
 have SZ: ∀b j,b<=s.length\/b=s.length+1/\j=0->j<=Q-> ∀e,mD m s.length L b j e≠0-> -1000<=e/\e<=1000:=fun b j hb hj e he=>by
  have:=A1 hs hL hb (by omega) he;omega
 generalize dT m s.length L k=T at*
 repeat' (first|omega|(try apply ag);simp only [go_sem,sevalprocAttr,bk,e3,zzC,Int.one_mul]|apply ae<;>(intro h_;(try simp only [h_]);revert h_)|apply And.intro|with_reducible intro h_|trivial|simp only [go_sem,ah];omega)
 refine aR.intro (fun n fr H=> ∃(b:Nat) (r:List (Int×Int)),b<=s.length+1/\aV r (mD m s.length L b 0)/\n=s.length+1-b/\fr=[(11,I b),(6, .sl 1 3 0 M),(5,I Q),(4, .ptr 2 0),(3,I s.length),(2, .ptr 1 0),(1, .ptr 0 0)]/\H=[(3, .cells 3 (.ints T)),(2, .cells 49 (.lst [tmA r, .bool false])),(1, .cells 49 (.lst [.nils, .bool false])),(0, .cells 24 (.lst [roI s,roI m,I L]))]) ?_ ?_
 ·refine ⟨_,_,_,?_,0,[],by omega,aV.nil,rfl,rfl,rfl⟩;refine Wk.sub ?_ ?_<;>(simp only [go_sem,sevalprocAttr,yaj])
 clear hk bM;rintro n fr H ⟨b,r,hb,hr,rfl,rfl,rfl⟩;by_cases L4:b<s.length+1
 ·have bb:decide ((b:Int)<=s.length)=true:=by simp;omega
  repeat' (first|omega|(try apply ag);simp only [go_sem,sevalprocAttr,bb]|apply ae<;>(intro h_;(try simp only [h_]);revert h_)|apply And.intro|with_reducible intro h_|trivial|simp only [go_sem,ah];omega)
  refine aR.intro (fun n fr H=> ∃(j:Nat) (r:List (Int×Int)),j<=Q/\aV r (mD m s.length L b j)/\n=Q-j/\fr=[(12,I ((j:Int)+1)),(11,I b),(6, .sl 1 3 0 M),(5,I Q),(4, .ptr 2 0),(3,I s.length),(2, .ptr 1 0),(1, .ptr 0 0)]/\H=[(3, .cells 3 (.ints T)),(2, .cells 49 (.lst [tmA r, .bool false])),(1, .cells 49 (.lst [.nils, .bool false])),(0, .cells 24 (.lst [roI s,roI m,I L]))]) ?_ ?_
  ·refine ⟨_,_,_,?_,0,r,by omega,hr,rfl,rfl,rfl⟩;refine Wk.sub ?_ ?_<;>(simp only [go_sem,sevalprocAttr,yaj])
  clear hr;rintro n fr H ⟨j,r,hj,hr,rfl,rfl,rfl⟩;obtain ⟨J,hJ⟩: ∃J,J=b*(2*s.length+L+2):=⟨_,rfl⟩;have e4:(b:Int)*((Q:Int)+1)=(J:Int):=by rw [hJ,show 2*s.length+L+2=Q+1 by omega];simp
  by_cases b9:j<Q
  ·have bj:decide ((j:Int)+1<=Q)=true:=by simp;omega
   obtain ⟨Z,hZ⟩: ∃Z,Z=J+(j+1):=⟨_,rfl⟩;have e5:(J:Int)+((j:Int)+1)=(Z:Int):=by omega
   have hI:=tL (W:=2*s.length+L+2) (show b<=s.length by omega) (show j+1<2*s.length+L+2 by omega);have hg:=Y5 b (j+1) (by omega) (by omega);rw [←hJ,←hZ] at hI hg;rw [←hM] at hI;have hv:=Mi b (j+1);have gQ:=fun e=>IY m s.length L b j e;by_cases j8:0<lO m s.length L k b (j+1)
   ·have bp:decide (0<lO m s.length L k b (j+1))=true:=by simpa using j8
    have BA: ∀e,gu m s.length L b (j+1) e=lO m s.length L k b (j+1)*dpw j (e-((s.length:Int)-2*b)):=fun e=>by unfold gu;rw [←hK,Nat.add_sub_cancel]
    have SU:=fun e=>RV (m:=m) (L:=L) (b:=b) (c:=j+1) hs (by omega) e;have gO:=fun (e:Int) (he:gu m s.length L b (j+1) e≠0)=>RU hs (by omega) (by omega) he;generalize lO m s.length L k b (j+1)=v at*;obtain ⟨w,hw⟩: ∃w,w=(s.length:Int)-2*b:=⟨_,rfl⟩;rw [←hw] at BA;have hO:=Vu w v (by omega) (by omega);have Y9:=Vr j (by omega);have xc:=nQ (f:=dpw j) fun e he=>by have:=qi j e he;omega
    have X8:aV [(w,v)] (fun x=>if x=w then v else 0):=⟨⟨by simp,fun t ht=>by simp only [List.mem_singleton] at ht;subst ht;show v≠0;omega⟩,fun x=>by
     simp only [cfL,Int.add_zero];by_cases h:x=w
     ·rw [if_pos h,if_pos h.symm]
     ·rw [if_neg h,if_neg fun g=>h g.symm]⟩
    obtain ⟨r1,Li,Zc⟩:=Gy X8 xc (fun e he=>by
     by_cases h:e=w
     ·omega
     ·rw [if_neg h] at he;exact absurd rfl he) (fun e he=>by have:=qi j e he;omega) (fun e=>by split<;>omega) (fun e=>by have:=C2 (j:=j) (by omega) e;omega) (h:=gu m s.length L b (j+1)) (fun e=>by
     simp only [cvL,Int.add_zero];exact (BA e).symm) (fun e=>by have:=SU e;omega) (by
     have:=xc.len fun e he=>by have:=qi j e he;omega
     simp only [zzG,List.length_nil];omega)
    obtain ⟨r2,vJ,Mu⟩:=NX hr Li (SZ b j (by omega) (by omega)) (fun e he=>by have:=gO e he;omega) (fun e=>A2 hs hL (by omega) (by omega) e) (fun e=>by have:=SU e;omega);have e7:(j:Int)+1-1=j:=by omega
    have e8:(s.length:Int)-2*b=w:=hw.symm
    repeat' (first|omega|(first|apply ag|(refine aj.intro (id:=24) De Dd (by decide+kernel) mixed ?_)|skip);simp only [go_sem,sevalprocAttr,bb,bj,bp,e4,e5,e7,e8,tl,hg,zzC,↓reduceIte,reduceCtorEq,De,Dd]|apply ae<;>(intro h_;(try simp only [h_]);revert h_)|apply And.intro|with_reducible intro h_|trivial|simp only [go_sem,ah];omega)
    refine ⟨bI.new (h:=hO) rfl (by simp only [go_sem,sevalprocAttr,e8]) (by simp only [go_sem,sevalprocAttr,e8];try rfl) ?_⟩;simp only [go_sem,sevalprocAttr,e7,e8,yaj];refine ⟨by omega,?_⟩;refine ⟨bI.fn rfl Y9 ?_⟩;simp only [go_sem,sevalprocAttr,e7,e8,yaj];refine ⟨bI.fn rfl Zc ?_⟩;simp only [go_sem,sevalprocAttr,e7,e8,yaj];refine ⟨bI.fn rfl Mu ?_⟩;simp only [go_sem,sevalprocAttr,e7,e8,yaj]
    repeat' (first|omega|(first|apply ag|(refine aj.intro (id:=24) De Dd (by decide+kernel) mixed ?_)|skip);simp only [go_sem,sevalprocAttr,bb,bj,bp,e4,e5,e7,e8,tl,hg,zzC,↓reduceIte,reduceCtorEq,De,Dd]|apply ae<;>(intro h_;(try simp only [h_]);revert h_)|apply And.intro|with_reducible intro h_|trivial|simp only [go_sem,ah];omega)
    refine ⟨_,_,_,?_,?_,j+1,r2,by omega,vJ.congr fun e=>(gQ e).symm,rfl,rfl,rfl⟩
    ·omega
    ·have e6:(((j+1:Nat):Int))=(j:Int)+1:=by omega
     rw [e6];refine Wk.sub ?_ ?_<;>(simp only [go_sem,sevalprocAttr,yaj])
   ·have h0:lO m s.length L k b (j+1)=0:=by omega
    have bp:decide ((0:Int)<0)=false:=rfl;rw [h0] at hg;have rb: ∀e,gu m s.length L b (j+1) e=0:=fun e=>by unfold gu;rw [←hK,h0,Int.zero_mul]
    repeat' (first|omega|(try apply ag);simp only [go_sem,sevalprocAttr,bb,bj,bp,e4,e5,tl,hg,zzC]|apply ae<;>(intro h_;(try simp only [h_]);revert h_)|apply And.intro|with_reducible intro h_|trivial|simp only [go_sem,ah];omega)
    refine ⟨_,_,_,?_,?_,j+1,r,by omega,hr.congr fun e=>by rw [gQ,rb];omega,rfl,rfl,rfl⟩
    ·omega
    ·have e6:(((j+1:Nat):Int))=(j:Int)+1:=by omega
     rw [e6];refine Wk.sub ?_ ?_<;>(simp only [go_sem,sevalprocAttr,yaj])
  ·obtain rfl:j=Q:=by omega
   have bj:decide ((j:Int)+1<=j)=false:=by simp;omega
   repeat' (first|omega|(try apply ag);simp only [go_sem,sevalprocAttr,bb,bj]|apply ae<;>(intro h_;(try simp only [h_]);revert h_)|apply And.intro|with_reducible intro h_|trivial|simp only [go_sem,ah];omega)
   refine ⟨_,_,_,?_,?_,b+1,r,by omega,hr.congr fun e=>by rw [Kx,hQ],rfl,rfl,rfl⟩
   ·omega
   ·have e6:(((b+1:Nat):Int))=(b:Int)+1:=by omega
    rw [e6];refine Wk.sub ?_ ?_<;>(simp only [go_sem,sevalprocAttr,yaj])
 ·obtain rfl:b=s.length+1:=by omega
  have bb:decide (((s.length+1:Nat):Int)<=s.length)=false:=by simp;omega
  have dY:r=kE m s.length L:=(hr.congr fun e=>NV hp e).eq fun e he=>by
   rw [←NV hp e] at he;exact SZ _ _ (.inr ⟨rfl,rfl⟩) (by omega) e he
  rw [←dY]
  repeat' (first|omega|(try apply ag);simp only [go_sem,sevalprocAttr,bb]|apply ae<;>(intro h_;(try simp only [h_]);revert h_)|apply And.intro|with_reducible intro h_|trivial|simp only [go_sem,ah];omega)
  all_goals exact az.refl _
theorem Jy (c e:Int) (h0: -1125899906842624<=c/\c<=1125899906842624) (h1: -1048576<=e/\e<=1048576):Fn Tryz.prog 97 [I c,I e] (plA false (yK c e)):=by
 have pq:=wD c 1125899906842624 (by omega) (by omega);have oz:=wD e 1048576 (by omega) (by omega);rw [He (by omega) (by omega)] at pq oz;unfold yK;by_cases h:c=0
 ·have bz:(c==0)=true:=by simpa using h
  rw [if_pos h];refine Fn.ai [.cell 4 29] Tryz.func97 rfl rfl (by decide) (by simp [Tryz.ntmps97]) ?_;rw [Tryz.ntmps97]
  repeat' (first|omega|(try apply ag);simp only [go_sem,sevalprocAttr,bz]|apply ae<;>(intro h_;(try simp only [h_]);revert h_)|apply And.intro|with_reducible intro h_|trivial|simp only [go_sem,ah];omega)
  all_goals exact az.iA (.cons (az.refl _) (.cons (az.nils (by omega) rfl) .nil))
 ·have bz:(c==0)=false:=by rw [beq_eq_false_iff_ne];exact h
  rw [if_neg h];refine Fn.ai [.cell 4 29] Tryz.func97 rfl rfl (by decide) (by simp [Tryz.ntmps97]) ?_;rw [Tryz.ntmps97]
  repeat' (first|omega|(try apply ag);simp only [go_sem,sevalprocAttr,bz]|apply ae<;>(intro h_;(try simp only [h_]);revert h_)|apply And.intro|with_reducible intro h_|trivial|simp only [go_sem,ah];omega)
  refine ⟨au.fn rfl pq ?_⟩
  repeat' (first|omega|(try apply ag);simp only [go_sem,sevalprocAttr]|apply ae<;>(intro h_;(try simp only [h_]);revert h_)|apply And.intro|with_reducible intro h_|trivial|simp only [go_sem,ah];omega)
  refine ⟨au.fn rfl oz ?_⟩
  repeat' (first|omega|(try apply ag);simp only [go_sem,sevalprocAttr]|apply ae<;>(intro h_;(try simp only [h_]);revert h_)|apply And.intro|with_reducible intro h_|trivial|simp only [go_sem,ah];omega)
  all_goals exact az.of rfl
end Go.Proofs.YtmdjdekgakidhaaGreatDoor
