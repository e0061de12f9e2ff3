/- The reference of layer 12: the product of two numbers. -/
import Derived.Test.YtmdjdekgakidhaaGreatDoorZa
import Derived.Test.YtmdjdekgakidhaaGreatDoorPl
set_option linter.unusedSimpArgs false
set_option linter.unusedVariables false
namespace Go.Proofs.YtmdjdekgakidhaaGreatDoor
open Go Go.RowKit
set_option maxRecDepth 100000
set_option maxHeartbeats 8000000
theorem zT {d b D B:Int} (h0:0<=d) (h1:d<=D) (h2: -B<=b) (h3:b<=B): -(D*B)<=d*b/\d*b<=D*B:=by
 have hB:0<=B:=by omega
 have a1:=Int.mul_le_mul_of_nonneg_left h3 h0;have a2:=Int.mul_le_mul_of_nonneg_left h2 h0;have a3:=Int.mul_le_mul_of_nonneg_right h1 hB;rw [Int.mul_neg] at a2;omega
theorem VV (A i:Nat) (sg b:Int):sg*((A % 2^(10*i):Nat):Int)*b+sg*((A/2^(10*i)% 1024:Nat):Int)*b*2^(10*i)=sg*((A % 2^(10*(i+1)):Nat):Int)*b:=by
 have e:A % 2^(10*(i+1))=A % 2^(10*i)+2^(10*i)*(A/2^(10*i)% 1024):=by
  rw [show 10*(i+1)=10*i+10 by omega,Nat.pow_add,Nat.mod_mul]
 rw [e,Int.natCast_add,Int.natCast_mul,Int.mul_add,Int.add_mul];have hc:((2^(10*i):Nat):Int)=2^(10*i):=by simp
 rw [hc];generalize (2:Int)^(10*i)=Q;generalize ((A/2^(10*i)% 1024:Nat):Int)=d;congr 1;rw [Int.mul_assoc sg d b,Int.mul_assoc sg (d*b) Q,Int.mul_assoc sg (Q*d) b,Int.mul_comm Q d,Int.mul_assoc d b Q,Int.mul_assoc d Q b,Int.mul_comm b Q]
theorem Ki (p:Int) (k:Nat) (hk:k<=50) (hp: -2305843009213693952<=p/\p<=2305843009213693952): -2596148429267413814265248164610048<=p*2^k/\p*2^k<=2596148429267413814265248164610048:=by
 have h1:2^k<=1125899906842624:=Nat.le_trans (Nat.pow_le_pow_right (by omega) hk) (by decide:2^50<=1125899906842624);have h2:((2^k:Nat):Int)=2^k:=by simp
 generalize 2^k=q at h1 h2
 have:=zT (d:=(q:Int)) (D:=1125899906842624) (by omega) (by omega) hp.1 hp.2
 rw [←h2,Int.mul_comm p];omega
theorem Ii (a b:Int) (ha: -2251799813685248<=a/\a<=2251799813685248) (hb: -2251799813685248<=b/\b<=2251799813685248):Fn Tryz.prog 103 [I a,I b] (qwA (a*b)):=by
 obtain ⟨A,sg,nY⟩: ∃(A:Nat) (sg:Int),(decide (a<0)=true/\sg= -1/\0-a=A)\/(decide (a<0)=false/\sg=1/\a=A):=by
  by_cases h:a<0
  ·exact ⟨(-a).toNat,-1, .inl ⟨by simpa using h,rfl,by omega⟩⟩
  ·exact ⟨a.toNat,1, .inr ⟨by simpa using h,rfl,by omega⟩⟩
 have hA:A<=2251799813685248:=by omega
 have Yi:sg*A=a:=by rcases nY with ⟨_,rfl,h⟩|⟨_,rfl,h⟩<;>omega
 have dY:A % 2^(10*6)=A:=Nat.mod_eq_of_lt (Nat.lt_of_le_of_lt hA (by decide));have mQ:sg=1\/sg= -1:=by omega
 refine Fn.ai [.cell 4 129] Tryz.func103 rfl rfl (by decide) (by simp [Tryz.ntmps103]) ?_;rw [Tryz.ntmps103];rcases nY with ⟨b0,hs,hn⟩|⟨b0,hs,hn⟩
 case' inl=>
  repeat' (first|omega|(try apply ag);simp only [go_sem,sevalprocAttr,b0,hn]|apply ae<;>(intro h_;(try simp only [h_]);revert h_)|apply And.intro|with_reducible intro h_|trivial|simp only [go_sem,ah];omega)
 case' inr=>
  repeat' (first|omega|(try apply ag);simp only [go_sem,sevalprocAttr,b0]|apply ae<;>(intro h_;(try simp only [h_]);revert h_)|apply And.intro|with_reducible intro h_|trivial|simp only [go_sem,ah];omega)
  rw [hn]
 all_goals
  refine aR.intro (fun n fr H=> ∃i:Nat,i<=6/\n=6-i/\fr=[(7,I (10*(i:Int))),(6, .ptr 1 0),(5,I sg),(4, .ptr 0 0),(0,I A),(1,I b)]/\H=[(1,vt (sg*((A % 2^(10*i):Nat):Int)*b/1125899906842624) (sg*((A % 2^(10*i):Nat):Int)*b % 1125899906842624)),(0,vt 0 0)]) ?_ ?_
  ·refine ⟨_,_,_,?_,0,by omega,rfl,rfl,rfl⟩;rw [show A % 2^(10*0)=0 from Nat.mod_one A];refine Wk.sub ?_ ?_<;>(simp only [go_sem,sevalprocAttr,hs])
   all_goals simp
  rintro n fr H ⟨i,hi,rfl,rfl,rfl⟩;by_cases hi6:i<6
  ·have c1:decide (10*(i:Int)<60)=true:=by simp;omega
   have sh:IntKind.u64.wrap (10*(i:Int))=10*(i:Int):=by rw [IntKind.wrap_u64];omega
   have tn:(10*(i:Int)).toNat=10*i:=by omega
   have e0:(A:Int)/2^(10*i)=((A/2^(10*i):Nat):Int):=by simp
   have e1:((A/2^(10*i):Nat):Int).tmod 1024=((A/2^(10*i)% 1024:Nat):Int):=by
    generalize A/2^(10*i)=q;rw [zU (by omega)];omega
   have dd:A/2^(10*i)<=A:=Nat.div_le_self _ _;have st:=VV A i sg b;have mA:A % 2^(10*i)<=A:=Nat.mod_le _ _;have mA2:A % 2^(10*(i+1))<=A:=Nat.mod_le _ _;obtain ⟨v,hv⟩: ∃v,sg*((A/2^(10*i)% 1024:Nat):Int)=v:=⟨_,rfl⟩;have Yb: -1023<=v/\v<=1023:=by rcases mQ with h|h<;>rw [h] at hv<;>omega
   obtain ⟨p,hp⟩: ∃p,v*b=p:=⟨_,rfl⟩;have lX: -2305843009213693952<=p/\p<=2305843009213693952:=by
    rw [←hp];by_cases h:0<=v
    ·have:=zT h Yb.2 hb.1 hb.2;omega
    ·have:=zT (d:= -v) (D:=1023) (by omega) (by omega) hb.1 hb.2
     rw [Int.neg_mul] at this;omega
   rw [hv,hp] at st;obtain ⟨u,w,Ye,Sw,Sv⟩: ∃u w:Int,(p.tdiv 1125899906842624=u/\p.tmod 1125899906842624=w/\p=u*1125899906842624+w)/\ -1125899906842624<=p.tmod 1125899906842624/\p.tmod 1125899906842624<=4503599627370496:=by
    have h1:=Int.mul_tdiv_add_tmod p 1125899906842624;have h2:=Int.lt_tmod_of_pos p (show (0:Int)<1125899906842624 by decide);have h3:=Int.tmod_lt_of_pos p (show (0:Int)<1125899906842624 by decide);exact ⟨_,_,⟨rfl,rfl,by omega⟩,by omega,by omega⟩
   obtain ⟨S1,Tv⟩: ∃S1,sg*((A % 2^(10*(i+1)):Nat):Int)*b=S1:=⟨_,rfl⟩;rw [Tv] at st;obtain ⟨SS,K5,hu3⟩:=Ye;rw [K5] at Sw Sv;have hr:=NL 0 w (by omega) ⟨Sw,Sv⟩;have e5:(0*1125899906842624+w)/1125899906842624+u=p/1125899906842624:=by omega
   have e6:(0*1125899906842624+w)% 1125899906842624=p % 1125899906842624:=by omega
   have e7: -4611686018427387904<=(0*1125899906842624+w)/1125899906842624+u/\(0*1125899906842624+w)/1125899906842624+u<=4611686018427387904:=by omega
   rw [show (0:Int)*1125899906842624+w=w by omega] at hr e5 e6 e7;have pk:=fun k hk=>Ki p k hk lX;have sb: -2596148429267413814265248164610048<=sg*((A % 2^(10*i):Nat):Int)*b/\sg*((A % 2^(10*i):Nat):Int)*b<=2596148429267413814265248164610048:=by
    generalize A % 2^(10*i)=q at*;rcases mQ with h|h
    ·have:=zT (d:=(q:Int)) (D:=2251799813685248) (by omega) (by omega) hb.1 hb.2
     rw [h,Int.one_mul];omega
    ·have:=zT (d:=(q:Int)) (D:=2251799813685248) (by omega) (by omega) hb.1 hb.2
     rw [h,Int.neg_mul,Int.neg_mul,Int.one_mul];omega
   have Tx:=Hm _ _ sb (pk (10*i) (by omega));rw [st] at Tx;generalize sg*((A % 2^(10*i):Nat):Int)*b=S0 at*
   repeat' (first|omega|(try apply ag);simp only [go_sem,sevalprocAttr,c1,sh,tn,e0,e1,hv,hp,SS,K5]|apply ae<;>(intro h_;(try simp only [h_]);revert h_)|apply And.intro|with_reducible intro h_|trivial|simp only [go_sem,ah];omega)
   refine ⟨au.fn rfl hr ?_⟩
   repeat' (first|omega|(try apply ag);simp only [go_sem,sevalprocAttr,c1,sh,tn,e0,e1,hv,hp,SS,K5,e5,e6]|apply ae<;>(intro h_;(try simp only [h_]);revert h_)|apply And.intro|with_reducible intro h_|trivial|simp only [go_sem,ah];omega)
   refine aR.intro (fun n fr H=> ∃k:Nat,k<=10*i/\n=10*i-k/\fr=[(10,I k),(9, .ptr 2 0),(7,I (10*(i:Int))),(6, .ptr 1 0),(5,I sg),(4, .ptr 0 0),(0,I A),(1,I b)]/\H=[(2,vt (p*2^k/1125899906842624) (p*2^k % 1125899906842624)),(1,vt (S0/1125899906842624) (S0 % 1125899906842624)),(0,vt 0 0)]) ?_ ?_
   ·refine ⟨_,_,_,?_,0,by omega,rfl,rfl,rfl⟩;rw [Int.pow_zero,Int.mul_one];refine Wk.sub ?_ ?_<;>simp only [go_sem,sevalprocAttr]
   rintro n fr H ⟨k,hk,rfl,rfl,rfl⟩;by_cases hki:k<10*i
   ·have c2:decide ((k:Int)<10*(i:Int))=true:=by simp;omega
    have hP:=Hm _ _ (pk k (by omega)) (pk k (by omega));rw [show p*2^k+p*2^k=p*2^(k+1) by rw [Int.pow_succ,←Int.mul_assoc];omega] at hP
    repeat' (first|omega|(try apply ag);simp only [go_sem,sevalprocAttr,c2]|apply ae<;>(intro h_;(try simp only [h_]);revert h_)|apply And.intro|with_reducible intro h_|trivial|simp only [go_sem,ah];omega)
    refine ⟨au.fn rfl hP ?_⟩
    repeat' (first|omega|(try apply ag);simp only [go_sem,sevalprocAttr,c2]|apply ae<;>(intro h_;(try simp only [h_]);revert h_)|apply And.intro|with_reducible intro h_|trivial|simp only [go_sem,ah];omega)
    refine ⟨_,_,_,?_,?_,⟨k+1,by omega,rfl,rfl,rfl⟩⟩
    ·omega
    ·refine Wk.sub ?_ ?_<;>simp only [go_sem,sevalprocAttr]
   ·obtain rfl:k=10*i:=by omega
    have c2:decide (((10*i:Nat):Int)<10*(i:Int))=false:=by simp
    repeat' (first|omega|(try apply ag);simp only [go_sem,sevalprocAttr,c2]|apply ae<;>(intro h_;(try simp only [h_]);revert h_)|apply And.intro|with_reducible intro h_|trivial|simp only [go_sem,ah];omega)
    refine ⟨au.fn rfl Tx ?_⟩
    repeat' (first|omega|(try apply ag);simp only [go_sem,sevalprocAttr,c2]|apply ae<;>(intro h_;(try simp only [h_]);revert h_)|apply And.intro|with_reducible intro h_|trivial|simp only [go_sem,ah];omega)
    refine ⟨_,_,_,?_,?_,⟨i+1,by omega,rfl,rfl,rfl⟩⟩
    ·omega
    ·have e8:10*(i:Int)+10=10*((i:Int)+1):=by omega
     refine Wk.sub ?_ ?_<;>(simp only [go_sem,sevalprocAttr,Tv,e8])
  ·obtain rfl:i=6:=by omega
   rw [dY,Yi]
   repeat' (first|omega|(try apply ag);simp only [go_sem,sevalprocAttr]|apply ae<;>(intro h_;(try simp only [h_]);revert h_)|apply And.intro|with_reducible intro h_|trivial|simp only [go_sem,ah];omega)
   all_goals (try rw [hn])
   all_goals exact az.refl _
end Go.Proofs.YtmdjdekgakidhaaGreatDoor
namespace Go.Proofs.YtmdjdekgakidhaaGreatDoor
def dR (R:List Int) (g h:Nat):List Int:=if R.getD g 0=R.getD h 0 then R else R.map fun r=>if r=R.getD g 0 then R.getD h 0 else r
def roots (R:List Int):Nat:=(List.range R.length).countP fun x=>R.getD x 0==(x:Int)
structure iB (R:List Int) (N:Nat):Prop where
 len:R.length=N
 cR: ∀x,x<N->0<=R.getD x 0/\R.getD x 0<N
 idem: ∀x,x<N->R.getD (R.getD x 0).toNat 0=R.getD x 0
theorem Uv {α β:Type} (l:List α) (f:α->β) (i:Nat) (d:α) (e:β) (h:i<l.length):(l.map f).getD i e=f (l.getD i d):=by simp [h]
section
variable {R:List Int} {N:Nat}
theorem PR (R:List Int) (g h:Nat):(dR R g h).length=R.length:=by unfold dR;split<;>simp
theorem oi (hl:R.length=N) {g h x:Nat} (hx:x<N):(dR R g h).getD x 0=if R.getD x 0=R.getD g 0 then R.getD h 0 else R.getD x 0:=by
 unfold dR
 split
 ·rename_i e;split
  ·omega
  ·rfl
 ·rw [Uv _ _ _ 0 _ (by omega)]
theorem Au (hR:iB R N) {g h:Nat} (hg:g<N) (hh:h<N):iB (dR R g h) N:=by
 refine ⟨by rw [PR];exact hR.len,fun x hx=>?_,fun x hx=>?_⟩
 ·rw [oi hR.len hx];have:=hR.cR x hx;have:=hR.cR h hh;split<;>omega
 ·rw [oi hR.len hx];have r1:=hR.cR x hx;have r2:=hR.cR h hh;by_cases e:R.getD x 0=R.getD g 0
  ·rw [if_pos e,oi hR.len (by omega),hR.idem h hh];split<;>rfl
  ·rw [if_neg e,oi hR.len (by omega),hR.idem x hx,if_neg e]
theorem oW (hl:R.length=N) {g h x y:Nat} (hx:x<N) (hy:y<N) (e:R.getD x 0=R.getD y 0):(dR R g h).getD x 0=(dR R g h).getD y 0:=by
 rw [oi hl hx,oi hl hy,e]
theorem Ay (hl:R.length=N) {g h:Nat} (hg:g<N) (hh:h<N):(dR R g h).getD g 0=(dR R g h).getD h 0:=by
 rw [oi hl hg,oi hl hh,if_pos rfl];split<;>rfl
theorem Uu (p q:Nat->Bool) (N a:Nat) (ha:a<N) (h1:p a=true) (h2:q a=false) (h: ∀x,x<N->x≠a->p x=q x):(List.range N).countP p=(List.range N).countP q+1:=by
 induction N with
 |zero=>omega
 |succ N ih=>
  rw [List.range_succ,List.countP_append,List.countP_append];by_cases e:a=N
  ·subst e
   have:(List.range a).countP p=(List.range a).countP q:=List.countP_congr fun x hx=>by
    have:=List.mem_range.1 hx
    rw [h x (by omega) (by omega)]
   simp [this,h1,h2]
  ·have:=ih (by omega) (fun x hx hn=>h x (by omega) hn)
   have e2:=h N (by omega) (by omega);simp only [List.countP_cons,List.countP_nil,e2];omega
theorem Qv (hR:iB R N) {g h:Nat} (hg:g<N) (hh:h<N) (av:R.getD g 0≠R.getD h 0):roots R=roots (dR R g h)+1:=by
 have r1:=hR.cR g hg;unfold roots;rw [PR];have hl:=hR.len;refine Uu _ _ R.length (R.getD g 0).toNat (by omega) ?_ ?_ ?_
 ·rw [hR.idem g hg];simp only [beq_iff_eq];omega
 ·rw [oi hR.len (by omega),hR.idem g hg,if_pos rfl];simp only [beq_eq_false_iff_ne,ne_eq];omega
 ·intro x hx hn;rw [oi hR.len (by omega)];by_cases e:R.getD x 0=R.getD g 0
  ·rw [if_pos e,e];have e1:(R.getD g 0==(x:Int))=false:=by simp only [beq_eq_false_iff_ne,ne_eq];omega
   have e2:(R.getD h 0==(x:Int))=false:=by
    simp only [beq_eq_false_iff_ne,ne_eq];intro e3
    have:=hR.idem h hh
    rw [e3] at this;simp only [zzC] at this;omega
   rw [e1,e2]
  ·rw [if_neg e]
end
structure Inv2 (n:Nat) (mt jn:Int->Int):Prop where
 mr: ∀x,aw n x->aw n (mt x)
 jr: ∀x,aw n x->aw n (jn x)
 mm: ∀x,aw n x->mt (mt x)=x
 jj: ∀x,aw n x->jn (jn x)=x
 mf: ∀x,aw n x->mt x≠x
 jf: ∀x,aw n x->jn x≠x
inductive bf (mt jn:Int->Int):Int->Int->Prop
 |refl (x:Int):bf mt jn x x
 |aO {x y:Int} (h:bf mt jn x y):bf mt jn x (mt y)
 |join {x y:Int} (h:bf mt jn x y):bf mt jn x (jn y)
section
variable {n:Nat} {mt jn:Int->Int}
theorem bf.trans {x y z:Int} (h1:bf mt jn x y) (h2:bf mt jn y z):bf mt jn x z:=by
 induction h2 with
 |refl=>exact h1
 |aO _ ih=>exact .aO ih
 |join _ ih=>exact .join ih
theorem bf.cR (hi:Inv2 n mt jn) {x y:Int} (h:bf mt jn x y) (hx:aw n x):aw n y:=by
 induction h with
 |refl=>exact hx
 |aO _ ih=>exact hi.mr _ ih
 |join _ ih=>exact hi.jr _ ih
theorem bf.symm (hi:Inv2 n mt jn) {x y:Int} (h:bf mt jn x y) (hx:aw n x):bf mt jn y x:=by
 induction h with
 |refl=>exact .refl _
 | @aO y h ih=>
   have h1:=bf.aO (mt:=mt) (jn:=jn) (bf.refl (mt y));rw [hi.mm y (h.cR hi hx)] at h1;exact h1.trans ih
 | @join y h ih=>
   have h1:=bf.join (mt:=mt) (jn:=jn) (bf.refl (jn y));rw [hi.jj y (h.cR hi hx)] at h1;exact h1.trans ih
structure fa (n:Nat) (mt jn:Int->Int) (R:List Int):Prop where
 rep:iB R (4*n)
 iff: ∀x y:Nat,x<4*n->y<4*n->(R.getD x 0=R.getD y 0↔bf mt jn x y)
theorem fa.of {R:List Int} (hi:Inv2 n mt jn) (hR:iB R (4*n)) (h1: ∀x y:Nat,x<4*n->y<4*n->R.getD x 0=R.getD y 0->bf mt jn x y)
  (h2: ∀x:Nat,x<4*n->R.getD (mt x).toNat 0=R.getD x 0) (h3: ∀x:Nat,x<4*n->R.getD (jn x).toNat 0=R.getD x 0):fa n mt jn R:=by
 refine ⟨hR,fun x y hx hy=>⟨h1 x y hx hy,fun h=>?_⟩⟩;have key: ∀z,bf mt jn x z->R.getD z.toNat 0=R.getD x 0:=by
  intro z hz
  induction hz with
  |refl=>simp
  | @aO y h ih=>
    have:=h.cR hi (by unfold aw;omega)
    unfold aw at this;have h4:=h2 y.toNat (by omega);rw [show ((y.toNat:Nat):Int)=y by omega] at h4;rw [h4,ih]
  | @join y h ih=>
    have:=h.cR hi (by unfold aw;omega)
    unfold aw at this;have h4:=h3 y.toNat (by omega);rw [show ((y.toNat:Nat):Int)=y by omega] at h4;rw [h4,ih]
 have:=key y h
 simpa using this.symm
theorem sT: ∀{l k:List Nat},l.Nodup->(∀x∈l,x∈k)->l.length<=k.length
 |[],_,_,_=>Nat.zero_le _
 |x::l,k,hn,hs=>by
  have hx:=hs x (by simp);obtain ⟨ik,YD⟩:=List.nodup_cons.1 hn
  have:=sT (l:=l) (k:=k.erase x) YD (fun y hy=>(List.mem_erase_of_ne (by intro e;subst e;exact ik hy)).2 (hs y (by simp [hy])))
  have h2:=List.length_erase_of_mem hx;have h3:=List.length_pos_of_mem hx;simp only [zzG];omega
theorem Er {R L:List Int} (hR:iB R (4*n)) (hL:iB L (4*n)) (h: ∀x y:Nat,x<4*n->y<4*n->(R.getD x 0=R.getD y 0↔L.getD x 0=L.getD y 0)):roots L<=roots R:=by
 unfold roots;rw [List.countP_eq_length_filter,List.countP_eq_length_filter];have hlen:((List.range L.length).filter fun x=>L.getD x 0==(x:Int)).length=(((List.range L.length).filter fun x=>L.getD x 0==(x:Int)).map fun x=>(R.getD x 0).toNat).length:=by simp
 rw [hlen];refine sT ?_ ?_
 ·rw [List.nodup_iff_pairwise_ne,List.pairwise_map];refine List.Pairwise.imp_of_mem ?_ (List.nodup_iff_pairwise_ne.1 (List.Nodup.sublist List.filter_sublist List.nodup_range));intro a b ha hb av e;simp only [List.mem_filter,zzK,beq_iff_eq,hL.len] at ha hb;have r1:=hR.cR a (by omega);have r2:=hR.cR b (by omega)
  have:=(h a b (by omega) (by omega)).1 (by omega)
  omega
 ·intro x hx;simp only [List.mem_map,List.mem_filter,zzK,beq_iff_eq,hL.len] at hx;obtain ⟨a,⟨ha,_⟩,rfl⟩:=hx;have r1:=hR.cR a (by omega)
  have:=hR.idem a (by omega)
  simp only [List.mem_filter,zzK,beq_iff_eq,hR.len];omega
theorem yy {R L:List Int} (hR:fa n mt jn R) (hL:fa n mt jn L):roots R=roots L:=
 Nat.le_antisymm (Er hL.rep hR.rep fun x y hx hy=>by rw [hL.iff x y hx hy,hR.iff x y hx hy]) (Er hR.rep hL.rep fun x y hx hy=>by rw [hL.iff x y hx hy,hR.iff x y hx hy])
theorem tH (hi:Inv2 n mt jn):Perm (fun x=>jn (mt x)) (4*n) (aw n):=
 ⟨fun x hx=>by unfold aw at hx;omega,fun x hx=>hi.jr _ (hi.mr _ hx),fun x y hx hy e=>by
  have h1:=congrArg jn e;rw [hi.jj _ (hi.mr _ hx),hi.jj _ (hi.mr _ hy)] at h1;have h2:=congrArg mt h1;rwa [hi.mm _ hx,hi.mm _ hy] at h2⟩
theorem Pc (hi:Inv2 n mt jn) {x:Int} (hx:aw n x): ∀d i j,i+d=j->it (fun x=>jn (mt x)) j x≠mt (it (fun x=>jn (mt x)) i x)/\it (fun x=>jn (mt x)) i x≠mt (it (fun x=>jn (mt x)) j x):=by
 have hR: ∀j,aw n (it (fun x=>jn (mt x)) j x):=fun j=>(tH hi).it hx j;have Cf: ∀i j,it (fun x=>jn (mt x)) j x=mt (it (fun x=>jn (mt x)) i x)->it (fun x=>jn (mt x)) i x=mt (it (fun x=>jn (mt x)) j x):=fun i j e=>by rw [e,hi.mm _ (hR i)]
 intro d
 induction d using Nat.strongRecOn with
 |_ d ih=>
  intro i j hd;have key:it (fun x=>jn (mt x)) j x≠mt (it (fun x=>jn (mt x)) i x):=by
   intro e;by_cases h0:d=0
   ·obtain rfl:j=i:=by omega
    exact hi.mf _ (hR j) e.symm
   ·by_cases h1:d=1
    ·obtain rfl:j=i+1:=by omega
     exact hi.jf _ (hi.mr _ (hR i)) e
    ·--shift both towards each other
     have e2:it (fun x=>jn (mt x)) (i+1) x=mt (it (fun x=>jn (mt x)) (j-1) x):=by
      show jn (mt (it (fun x=>jn (mt x)) i x))=_;rw [←e]
      conv=>lhs;rw [show j=(j-1)+1 by omega]
      exact hi.jj _ (hi.mr _ (hR (j-1)))
     exact (ih (d-2) (by omega) (i+1) (j-1) (by omega)).2 e2
  exact ⟨key,fun e=>key (Cf j i e)⟩
def crW (mt jn:Int->Int) (h:Int):Nat->List Int->Int->List Int
 |0,out,_=>out
 |f+1,out,g=>if out.getD g.toNat 0<0 then crW mt jn h f ((out.set g.toNat h).set (mt g).toNat h) (jn (mt g)) else out
def crN (mt jn:Int->Int) (N:Nat):Nat->List Int
 |0=>List.replicate N (-1)
 |h+1=>if 0<=(crN mt jn N h).getD h 0 then crN mt jn N h else crW mt jn h (N+1) (crN mt jn N h) h
def yO (mt jn:Int->Int) (x:Int) (k:Nat) (y:Int):Prop:= ∃j,j<k/\(y=it (fun x=>jn (mt x)) j x\/y=mt (it (fun x=>jn (mt x)) j x))
theorem VU (hi:Inv2 n mt jn) {x:Nat} (hx:x<4*n) {k:Nat} (hk:qG (fun x=>jn (mt x)) x k) {gZ:List Int} (y4:gZ.length=4*n)
  (hu: ∀j,j<k->gZ.getD (it (fun x=>jn (mt x)) j x).toNat 0<0):
  ∀d j f (out:List Int),d=k-j->j<=k->d<f->out.length=4*n->(∀y:Nat,y<4*n->(yO mt jn x j y->out.getD y 0=x)/\(¬yO mt jn x j y->out.getD y 0=gZ.getD y 0))->
  (crW mt jn x f out (it (fun x=>jn (mt x)) j x)).length=4*n/\ ∀y:Nat,y<4*n->(yO mt jn x k y->(crW mt jn x f out (it (fun x=>jn (mt x)) j x)).getD y 0=x)/\(¬yO mt jn x k y->(crW mt jn x f out (it (fun x=>jn (mt x)) j x)).getD y 0=gZ.getD y 0):=by
 have ik:aw n (x:Int):=by unfold aw;omega
 have hR: ∀j,aw n (it (fun x=>jn (mt x)) j x):=fun j=>(tH hi).it ik j;have ld:=hk.pos;intro d
 induction d with
 |zero=>
  intro j f out hd hj hf hl hy;obtain rfl:j=k:=by omega
  obtain ⟨f',rfl⟩: ∃f',f=f'+1:=⟨f-1,by omega⟩;have e:out.getD (it (fun x=>jn (mt x)) j x).toNat 0=x:=by
   rw [hk.back];exact (hy x hx).1 ⟨0,ld, .inl rfl⟩
  unfold crW;rw [if_neg (by omega)];exact ⟨hl,hy⟩
 |succ d ih=>
  intro j f out hd hj hf hl hy;obtain ⟨f',rfl⟩: ∃f',f=f'+1:=⟨f-1,by omega⟩;have r1:=hR j;have r2:=hi.mr _ (hR j);unfold aw at r1 r2;have tY: ¬yO mt jn x j (it (fun x=>jn (mt x)) j x):=by
   rintro ⟨i,fG,e|e⟩
   ·have:=(tH hi).cancel ik i (j-i) (by rw [show i+(j-i)=j by omega];exact e)
    exact hk.first (j-i) (by omega) (by omega) this
   ·exact (Pc hi ik (j-i) i j (by omega)).1 e
  have e:out.getD (it (fun x=>jn (mt x)) j x).toNat 0<0:=by
   have h1:=(hy (it (fun x=>jn (mt x)) j x).toNat (by omega)).2;rw [show (((it (fun x=>jn (mt x)) j x).toNat:Nat):Int)=it (fun x=>jn (mt x)) j x by omega] at h1;rw [h1 tY];exact hu j (by omega)
  unfold crW;rw [if_pos e];refine ih (j+1) f' _ (by omega) (by omega) (by omega) (by simp [hl]) fun y SH=>?_;have hset:((out.set (it (fun x=>jn (mt x)) j x).toNat x).set (mt (it (fun x=>jn (mt x)) j x)).toNat x).getD y 0=if (y:Int)=it (fun x=>jn (mt x)) j x\/(y:Int)=mt (it (fun x=>jn (mt x)) j x) then (x:Int) else out.getD y 0:=by
   by_cases e1:(mt (it (fun x=>jn (mt x)) j x)).toNat=y
   ·rw [e1,mh (by simp [hl];omega),if_pos (.inr (by omega))]
   ·rw [lN e1];by_cases e2:(it (fun x=>jn (mt x)) j x).toNat=y
    ·rw [e2,mh (by omega),if_pos (.inl (by omega))]
    ·rw [lN e2,if_neg (by omega)]
  rw [hset];constructor
  ·rintro ⟨i,fG,nC⟩;rcases Nat.lt_or_ge i j with q|q
   ·split
    ·rfl
    ·exact (hy y SH).1 ⟨i,q,nC⟩
   ·obtain rfl:i=j:=by omega
    rw [if_pos nC]
  ·intro cK;rw [if_neg fun nC=>cK ⟨j,by omega,nC⟩];exact (hy y SH).2 fun ⟨i,fG,nC⟩=>cK ⟨i,by omega,nC⟩
theorem DU (hi:Inv2 n mt jn) {x:Int} (hx:aw n x) {k:Nat} (hk:qG (fun x=>jn (mt x)) x k) {y:Int}:yO mt jn x k y↔bf mt jn x y:=by
 have hR: ∀j,aw n (it (fun x=>jn (mt x)) j x):=fun j=>(tH hi).it hx j;have ld:=hk.pos;constructor
 ·rintro ⟨j,hj,h⟩;have hc: ∀j,bf mt jn x (it (fun x=>jn (mt x)) j x):=by
   intro j
   induction j with
   |zero=>exact .refl _
   |succ j ih=>exact .join (.aO ih)
  rcases h with rfl|rfl
  ·exact hc j
  ·exact .aO (hc j)
 ·intro h
  induction h with
  |refl=>exact ⟨0,ld, .inl rfl⟩
  |aO _ ih=>
   obtain ⟨j,hj,h⟩:=ih;rcases h with rfl|rfl
   ·exact ⟨j,hj, .inr rfl⟩
   ·exact ⟨j,hj, .inl (hi.mm _ (hR j))⟩
  |join _ ih=>
   obtain ⟨j,hj,h⟩:=ih;rcases h with rfl|rfl
   ·--jn of the j-th is the aO of the one before
    by_cases h0:j=0
    ·subst h0;refine ⟨k-1,by omega, .inr ?_⟩
     have:it (fun x=>jn (mt x)) ((k-1)+1) x=x:=by rw [show (k-1)+1=k by omega];exact hk.back
     have h2:jn (mt (it (fun x=>jn (mt x)) (k-1) x))=x:=this;show jn x=_;rw [←h2,hi.jj _ (hi.mr _ (hR _)),h2]
    ·refine ⟨j-1,by omega, .inr ?_⟩
     conv=>lhs;rw [show j=(j-1)+1 by omega]
     exact hi.jj _ (hi.mr _ (hR (j-1)))
   ·by_cases h1:j+1<k
    ·exact ⟨j+1,h1, .inl rfl⟩
    ·refine ⟨0,ld, .inl ?_⟩
     have:it (fun x=>jn (mt x)) (j+1) x=x:=by rw [show j+1=k by omega];exact hk.back
     exact this
structure ZH (n:Nat) (mt jn:Int->Int) (h:Nat) (out:List Int):Prop where
 len:out.length=4*n
 yes: ∀y:Nat,y<4*n->0<=out.getD y 0->out.getD y 0<h/\bf mt jn (out.getD y 0) y/\out.getD (out.getD y 0).toNat 0=out.getD y 0
 clo: ∀a b:Nat,a<4*n->b<4*n->0<=out.getD a 0->bf mt jn a b->out.getD b 0=out.getD a 0
 low: ∀y:Nat,y<h->0<=out.getD y 0
theorem Rd (hi:Inv2 n mt jn): ∀h,h<=4*n->ZH n mt jn h (crN mt jn (4*n) h)
 |0,_=>⟨by simp [crN],fun y hy h=>by simp [crN,hy] at h,fun a b ha _ h=>by simp [crN,ha] at h,fun y hy=>by omega⟩
 |h+1,hh=>by
  have ih:=Rd hi h (by omega);simp only [crN];by_cases hs:0<=(crN mt jn (4*n) h).getD h 0
  ·rw [if_pos hs];refine ⟨ih.len,fun y hy h0=>?_,ih.clo,fun y hy=>?_⟩
   ·obtain ⟨h1,h2,h3⟩:=ih.yes y hy h0;exact ⟨by omega,h2,h3⟩
   ·rcases Nat.lt_or_ge y h with q|q
    ·exact ih.low y q
    ·rwa [show y=h by omega]
  ·rw [if_neg hs];have hR:aw n (h:Int):=by unfold aw;omega
   obtain ⟨k,fR,hk⟩:=(tH hi).A5 hR;generalize crN mt jn (4*n) h=gZ at*;have Ce: ∀y:Nat,y<4*n->bf mt jn h y->gZ.getD y 0<0:=by
    intro y hy hc;rcases Int.lt_or_le (gZ.getD y 0) 0 with q|q
    ·exact q
    ·have:=ih.clo y h hy (by omega) q (hc.symm hi hR);omega
   have eI:=VU hi (x:=h) (by omega) hk ih.len (fun j hj=>by
    have hr:=(tH hi).it hR j;have hc:=(DU hi hR hk).1 ⟨j,hj, .inl rfl⟩;unfold aw at hr;refine Ce _ (by omega) ?_;rw [show (((it (fun x=>jn (mt x)) j h).toNat:Nat):Int)=it (fun x=>jn (mt x)) j h by omega];exact hc) k 0 (4*n+1) gZ (by omega) (by omega) (by omega) ih.len (fun y hy=>⟨fun ⟨j,hj,_⟩=>by omega,fun _=>rfl⟩)
   have h0:it (fun x=>jn (mt x)) 0 (h:Int)=h:=rfl;rw [h0] at eI;obtain ⟨hlen,eI⟩:=eI;generalize crW mt jn h (4*n+1) gZ h=out at*;have gQ: ∀y:Nat,y<4*n->bf mt jn h y->out.getD y 0=h:=fun y hy hc=>(eI y hy).1 ((DU hi hR hk).2 hc);have ru: ∀y:Nat,y<4*n-> ¬bf mt jn h y->out.getD y 0=gZ.getD y 0:=fun y hy hc=>(eI y hy).2 fun ho=>hc ((DU hi hR hk).1 ho)
   refine ⟨hlen,fun y hy h1=>?_,fun a b ha hb h1 fy=>?_,fun y hy=>?_⟩
   ·by_cases hc:bf mt jn h y
    ·rw [gQ y hy hc];refine ⟨by omega,hc,?_⟩;simp only [zzC];exact gQ h (by omega) (.refl _)
    ·rw [ru y hy hc] at h1⊢;obtain ⟨g1,g2,g3⟩:=ih.yes y hy h1;refine ⟨by omega,g2,?_⟩;have hz: ¬bf mt jn h ((gZ.getD y 0).toNat:Nat):=by
      intro uv;rw [show (((gZ.getD y 0).toNat:Nat):Int)=gZ.getD y 0 by omega] at uv;exact hc (uv.trans g2)
     rw [ru _ (by omega) hz];exact g3
   ·by_cases hc:bf mt jn h a
    ·rw [gQ a ha hc,gQ b hb (hc.trans fy)]
    ·have iL: ¬bf mt jn h b:=fun iL=>hc (iL.trans (fy.symm hi (by unfold aw;omega)));rw [ru a ha hc] at h1⊢;rw [ru b hb iL];exact ih.clo a b ha hb h1 fy
   ·by_cases hc:bf mt jn h y
    ·rw [gQ y (by omega) hc];omega
    ·rw [ru y (by omega) hc];rcases Nat.lt_or_ge y h with q|q
     ·exact ih.low y q
     ·exact absurd (by rw [show y=h by omega];exact .refl _) hc
theorem uJ (hi:Inv2 n mt jn):fa n mt jn (crN mt jn (4*n) (4*n)):=by
 have h:=Rd hi (4*n) (zzA _);refine ⟨⟨h.len,fun x hx=>?_,fun x hx=>(h.yes x hx (h.low x hx)).2.2⟩,fun x y hx hy=>⟨fun e=>?_,fun hc=>(h.clo x y hx hy (h.low x hx) hc).symm⟩⟩
 ·have:=(h.yes x hx (h.low x hx)).1;exact ⟨h.low x hx,by omega⟩
 ·have h1:=(h.yes x hx (h.low x hx)).2.1;have h2:=(h.yes y hy (h.low y hy)).2.1;rw [←e] at h2;have h3:=(h.yes x hx (h.low x hx)).1;have h4:=h.low x hx;exact (h1.symm hi (by unfold aw;omega)).trans h2
end
def ny (m:List Int):Nat->List Int
 |0=>(List.range m.length).map (Nat.cast:Nat->Int)
 |k+1=>if (k:Int)<m.getD k 0 then dR (ny m k) k (m.getD k 0).toNat else ny m k
def gj (m:List Int) (ch:Nat->Bool):Nat->List Int
 |0=>ny m m.length
 |k+1=>if ch k then dR (dR (gj m ch k) (4*k+1) (4*k+2)) (4*k+3) (4*k) else dR (dR (gj m ch k) (4*k) (4*k+1)) (4*k+2) (4*k+3)
structure UF (l R:List Int) (N:Nat):Prop where
 rep:iB R N
 len:l.length=N
 cR: ∀x,x<N->0<=l.getD x 0/\l.getD x 0<N
 same: ∀x,x<N->R.getD (l.getD x 0).toNat 0=R.getD x 0
 root: ∀x:Nat,x<N->(l.getD x 0=x↔R.getD x 0=x)
 rank: ∃rk:Nat->Nat,∀x:Nat,x<N->l.getD x 0≠x->rk (l.getD x 0).toNat<rk x
section
variable {l R:List Int} {N:Nat}
theorem UF.init (N:Nat):UF ((List.range N).map (Nat.cast:Nat->Int)) ((List.range N).map (Nat.cast:Nat->Int)) N:=by
 have hg: ∀x,x<N->((List.range N).map (Nat.cast:Nat->Int)).getD x 0=x:=fun x hx=>by simp [hx]
 exact ⟨⟨by simp,fun x hx=>by rw [hg x hx];omega,fun x hx=>by rw [hg x hx];simpa using hg x hx⟩,by simp,fun x hx=>by rw [hg x hx];omega,fun x hx=>by rw [hg x hx];simpa using hg x hx,
  fun x hx=>by rw [hg x hx],fun x=>x,fun x hx hn=>absurd (hg x hx) hn⟩
end
theorem Rc (k:Nat):bO true ((4*k:Nat):Int)=((4*k+3:Nat):Int)/\bO true ((4*k+1:Nat):Int)=((4*k+2:Nat):Int)/\bO true ((4*k+2:Nat):Int)=((4*k+1:Nat):Int)/\bO true ((4*k+3:Nat):Int)=((4*k:Nat):Int)/\
  bO false ((4*k:Nat):Int)=((4*k+1:Nat):Int)/\bO false ((4*k+1:Nat):Int)=((4*k:Nat):Int)/\bO false ((4*k+2:Nat):Int)=((4*k+3:Nat):Int)/\bO false ((4*k+3:Nat):Int)=((4*k+2:Nat):Int):=by
 have o: ∀x:Int,x % 2=1->bO true x=x-x % 4+(x % 4+5)% 4/\bO false x=x-x % 4+(x % 4+3)% 4:=fun x h=>by
  unfold bO;rw [qJ,qd,decide_eq_true h];exact ⟨if_pos rfl,if_neg (by simp)⟩
 have e: ∀x:Int,¬x % 2=1->bO true x=x-x % 4+(x % 4+3)% 4/\bO false x=x-x % 4+(x % 4+5)% 4:=fun x h=>by
  unfold bO;rw [qJ,qd,decide_eq_false h];exact ⟨if_neg (by simp),if_pos rfl⟩
 rw [(e _ (by omega)).1,(o _ (by omega)).1,(e _ (by omega)).1,(o _ (by omega)).1,(e _ (by omega)).2,(o _ (by omega)).2,(e _ (by omega)).2,(o _ (by omega)).2];omega
theorem tG {m:List Int} {n:Nat} (hp:iN m n) (pA: ∀x:Nat,x<4*n->m.getD (m.getD x 0).toNat 0=x) (rD: ∀x:Nat,x<4*n->m.getD x 0≠x) (ch:Nat->Bool):Inv2 n (fun x=>m.getD x.toNat 0) (fun x=>bO (ch (x/4).toNat) x):=by
 have fv:=hp.1;refine ⟨fun x hx=>?_,fun x hx=>?_,fun x hx=>?_,fun x hx=>?_,fun x hx=>?_,fun x _=>you _ x⟩
 ·unfold aw at*
  have:=hp.2 x.toNat (by omega)
  omega
 ·unfold aw at*;have h1:=wx (ch (x/4).toNat) x;omega
 ·unfold aw at hx
  have:=pA x.toNat (by omega)
  show m.getD (m.getD x.toNat 0).toNat 0=x;rw [this];omega
 ·show bO (ch (bO (ch (x/4).toNat) x/4).toNat) (bO (ch (x/4).toNat) x)=x;rw [wx,DV]
 ·unfold aw at hx
  have:=rD x.toNat (by omega)
  show m.getD x.toNat 0≠x;omega
section
variable {n:Nat} {mt jn:Int->Int} {R:List Int}
theorem Ez (hi:Inv2 n mt jn) (hR:iB R (4*n)) (h1: ∀x y:Nat,x<4*n->y<4*n->R.getD x 0=R.getD y 0->bf mt jn x y) {g h:Nat} (hg:g<4*n) (hh:h<4*n) (Tb:bf mt jn g h):
  ∀x y:Nat,x<4*n->y<4*n->(dR R g h).getD x 0=(dR R g h).getD y 0->bf mt jn x y:=by
 intro x y hx hy e;have ir: ∀z:Nat,z<4*n->aw n (z:Int):=fun z hz=>by unfold aw;omega
 rw [oi hR.len hx,oi hR.len hy] at e;by_cases c1:R.getD x 0=R.getD g 0
 ·rw [if_pos c1] at e;by_cases c2:R.getD y 0=R.getD g 0
  ·exact h1 x y hx hy (c1.trans c2.symm)
  ·rw [if_neg c2] at e;exact ((h1 x g hx hg c1).trans Tb).trans (h1 h y hh hy e)
 ·rw [if_neg c1] at e;by_cases c2:R.getD y 0=R.getD g 0
  ·rw [if_pos c2] at e;exact ((h1 x h hx hh e).trans (Tb.symm hi (ir g hg))).trans (h1 g y hg hy c2.symm)
  ·rw [if_neg c2] at e;exact h1 x y hx hy e
end
section
variable {m:List Int} {n:Nat} {ch:Nat->Bool}
theorem Pb (hp:iN m n) (hi:Inv2 n (fun x=>m.getD x.toNat 0) (fun x=>bO (ch (x/4).toNat) x)): ∀k,k<=4*n->iB (ny m k) (4*n)/\
  (∀x y:Nat,x<4*n->y<4*n->(ny m k).getD x 0=(ny m k).getD y 0->bf (fun x=>m.getD x.toNat 0) (fun x=>bO (ch (x/4).toNat) x) x y)/\
  (∀x:Nat,x<k->(x:Int)<m.getD x 0->(ny m k).getD (m.getD x 0).toNat 0=(ny m k).getD x 0)
 |0,_=>by
  have fv:=hp.1;have hu:=(UF.init (4*n)).rep;refine ⟨by simp only [ny,fv];exact hu,fun x y hx hy e=>?_,fun x hx=>by omega⟩
  have:(x:Int)=y:=by simpa [ny,fv,hx,hy] using e
  have:x=y:=by omega
  subst this;exact .refl _
 |k+1,hk=>by
  obtain ⟨i1,i2,i3⟩:=Pb hp hi k (by omega);have fv:=hp.1;have l5:=hp.2 k (by omega);by_cases ax:(k:Int)<m.getD k 0
  ·have e:ny m (k+1)=dR (ny m k) k (m.getD k 0).toNat:=by simp only [ny,if_pos ax]
   rw [e];have hy:(m.getD k 0).toNat<4*n:=by omega
   have hc:bf (fun x=>m.getD x.toNat 0) (fun x=>bO (ch (x/4).toNat) x) (k:Int) ((m.getD k 0).toNat:Int):=by
    have:=bf.aO (mt:=fun x=>m.getD x.toNat 0) (jn:=fun x=>bO (ch (x/4).toNat) x) (bf.refl (k:Int))
    simp only [zzC] at this;rw [show ((m.getD k 0).toNat:Int)=m.getD k 0 by omega];exact this
   refine ⟨Au i1 (by omega) hy,Ez hi i1 i2 (by omega) hy hc,fun x hx E9=>?_⟩;by_cases ex:x=k
   ·subst ex;exact (Ay i1.len (by omega) hy).symm
   ·have YE:=hp.2 x (by omega);exact oW i1.len (by omega) (by omega) (i3 x (by omega) E9)
  ·have e:ny m (k+1)=ny m k:=by simp only [ny,if_neg ax]
   rw [e];refine ⟨i1,i2,fun x hx E9=>?_⟩;by_cases ex:x=k
   ·subst ex;exact absurd E9 ax
   ·exact i3 x (by omega) E9
theorem Pa (hp:iN m n) (pA: ∀x:Nat,x<4*n->m.getD (m.getD x 0).toNat 0=x) (rD: ∀x:Nat,x<4*n->m.getD x 0≠x): ∀k,k<=n->iB (gj m ch k) (4*n)/\
  (∀x y:Nat,x<4*n->y<4*n->(gj m ch k).getD x 0=(gj m ch k).getD y 0->bf (fun x=>m.getD x.toNat 0) (fun x=>bO (ch (x/4).toNat) x) x y)/\
  (∀x:Nat,x<4*n->(gj m ch k).getD (m.getD x 0).toNat 0=(gj m ch k).getD x 0)/\
  (∀x:Nat,x<4*k->(gj m ch k).getD (bO (ch (x/4)) x).toNat 0=(gj m ch k).getD x 0)
 |0,_=>by
  have hi:=tG hp pA rD ch;have fv:=hp.1;obtain ⟨i1,i2,i3⟩:=Pb (ch:=ch) hp hi (4*n) (zzA _);simp only [gj,fv];refine ⟨i1,i2,fun x hx=>?_,fun x hx=>by omega⟩;have l5:=hp.2 x (by omega);have av:=rD x hx;by_cases ax:(x:Int)<m.getD x 0
  ·exact i3 x hx ax
  ·have h2:=pA x hx
   have:=i3 (m.getD x 0).toNat (by omega) (by rw [h2];omega)
   rw [h2,zzC] at this;exact this.symm
 |k+1,hk=>by
  have hi:=tG hp pA rD ch;have fv:=hp.1;obtain ⟨i1,i2,i3,i4⟩:=Pa hp pA rD k (by omega);have ug: ∀x:Nat,bf (fun x=>m.getD x.toNat 0) (fun x=>bO (ch (x/4).toNat) x) (x:Int) (bO (ch (x/4)) x):=fun x=>by
   have:=bf.join (mt:=fun x=>m.getD x.toNat 0) (jn:=fun x=>bO (ch (x/4).toNat) x) (bf.refl (x:Int))
   rw [show ((x:Int)/4).toNat=x/4 by omega] at this;exact this
  have gen: ∀a b c d:Nat,a<4*n->b<4*n->c<4*n->d<4*n->bO (ch (a/4)) a=b->bO (ch (c/4)) c=d->(∀x:Nat,x/4=k->(x=a\/x=b\/x=c\/x=d))->bO (ch (b/4)) b=a->bO (ch (d/4)) d=c->
   gj m ch (k+1)=dR (dR (gj m ch k) a b) c d->iB (gj m ch (k+1)) (4*n)/\
   (∀x y:Nat,x<4*n->y<4*n->(gj m ch (k+1)).getD x 0=(gj m ch (k+1)).getD y 0->bf (fun x=>m.getD x.toNat 0) (fun x=>bO (ch (x/4).toNat) x) x y)/\
   (∀x:Nat,x<4*n->(gj m ch (k+1)).getD (m.getD x 0).toNat 0=(gj m ch (k+1)).getD x 0)/\
   (∀x:Nat,x<4*(k+1)->(gj m ch (k+1)).getD (bO (ch (x/4)) x).toNat 0=(gj m ch (k+1)).getD x 0):=by
   intro a b c d ha hb hc hd e1 e2 X6 e3 e4 eM;rw [eM];have r1:=Au i1 ha hb;have c1:=Ez hi i1 i2 ha hb (by rw [←e1];exact ug a);refine ⟨Au r1 hc hd,Ez hi r1 c1 hc hd (by rw [←e2];exact ug c),fun x hx=>?_,fun x hx=>?_⟩
   ·have l5:=hp.2 x (by omega);exact oW r1.len (by omega) hx (oW i1.len (by omega) hx (i3 x hx))
   ·by_cases hxk:x/4=k
    ·have p1:=oW r1.len (g:=c) (h:=d) ha hb (Ay i1.len ha hb);have p2:=Ay (N:=4*n) (R:=dR (gj m ch k) a b) r1.len hc hd;rcases X6 x hxk with rfl|rfl|rfl|rfl
     ·rw [e1,zzC];exact p1.symm
     ·rw [e3,zzC];exact p1
     ·rw [e2,zzC];exact p2.symm
     ·rw [e4,zzC];exact p2
    ·have hj:=wx (ch (x/4)) x;exact oW r1.len (by omega) (by omega) (oW i1.len (by omega) (by omega) (i4 x (by omega)))
  have d0:(4*k)/4=k:=by omega
  have d1:(4*k+1)/4=k:=by omega
  have d2:(4*k+2)/4=k:=by omega
  have d3:(4*k+3)/4=k:=by omega
  obtain ⟨t0,t1,t2,t3,f0,f1,f2,f3⟩:=Rc k;cases lf:ch k with
  |true=>
   exact gen (4*k+1) (4*k+2) (4*k+3) (4*k) (by omega) (by omega) (by omega) (by omega) (by rw [d1,lf];exact t1) (by rw [d3,lf];exact t3) (fun x hx=>by omega) (by rw [d2,lf];exact t2) (by rw [d0,lf];exact t0) (by simp only [gj,lf,if_true])
  |false=>
   exact gen (4*k) (4*k+1) (4*k+2) (4*k+3) (by omega) (by omega) (by omega) (by omega) (by rw [d0,lf];exact f0) (by rw [d2,lf];exact f2) (fun x hx=>by omega) (by rw [d1,lf];exact f1) (by rw [d3,lf];exact f3) (by simp only [gj,lf];rfl)
theorem FG (hp:iN m n) (pA: ∀x:Nat,x<4*n->m.getD (m.getD x 0).toNat 0=x) (rD: ∀x:Nat,x<4*n->m.getD x 0≠x):fa n (fun x=>m.getD x.toNat 0) (fun x=>bO (ch (x/4).toNat) x) (gj m ch n):=by
 obtain ⟨i1,i2,i3,i4⟩:=Pa (ch:=ch) hp pA rD n (zzA _);refine fa.of (tG hp pA rD ch) i1 i2 (fun x hx=>by simp only [zzC];exact i3 x hx) (fun x hx=>?_)
 have:=i4 x hx
 rw [show ((x:Int)/4).toNat=x/4 by omega];exact this
end
end Go.Proofs.YtmdjdekgakidhaaGreatDoor
