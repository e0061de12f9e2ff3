/- Layer 13: sums are small; terms. -/
import Derived.Test.YtbblgobamoabkaaGreatDoorZd
import Derived.Test.YtbblgobamoabkaaGreatDoorPl
namespace Go.Proofs.YtbblgobamoabkaaGreatDoor
open Go Go.RowKit
set_option maxRecDepth 100000
set_option maxHeartbeats 8000000
set_option linter.unusedVariables false
set_option linter.unusedSimpArgs false
def yxq:List (List Nat):=[[9,10,11,13,14,15],[9,10,11,13,14,15],[7,8,13,14,15],[7,8,13,14,15],[7,8,13,14,15],[13,14,15],[7,8,9,10,11,12,4],[7,8,9,10,11,12,4],[7,8,9,10,11,12,4],[13,14,15],[]]
def yxr:List (List Nat):=[[],[],[0,1],[0,1],[0,1],[],[0,1,2,3,4,5],[0,1,2,3,4,5],[0,1,2,3,4,5],[6,7,8],[]]
def bvC:List (Int×Int)->List AV
 |[]=>[]
 |t::r=>I (bvA t.1)::I (bvZ t.1)::I t.2::bvC r
theorem ybl: ∀p:List (Int×Int),(bvC p).length=3*p.length
 |[]=>rfl
 |t::r=>by simp only [bvC,List.length_cons,ybl r];omega
theorem ym5: ∀p q:List (Int×Int),bvC (p++q)=bvC p++bvC q
 |[],_=>rfl
 |t::r,q=>by simp only [List.cons_append,bvC,ym5 r q]
theorem ydv: ∀(p:List (Int×Int)) (i:Nat),i<p.length->(bvC p).getD (i*3) .any=I (bvA (p.getD i (0,0)).1)/\(bvC p).getD (i*3+1) .any=I (bvZ (p.getD i (0,0)).1)/\(bvC p).getD (i*3+2) .any=I (p.getD i (0,0)).2
 |[],i,h=>by simp at h
 |t::r,0,_=>⟨rfl,rfl,rfl⟩
 |t::r,i+1,h=>by
  have ih:=ydv r i (by simpa using h)
  simp only [bvC]
  rw [show (i+1)*3=i*3+1+1+1 by omega,show i*3+1+1+1+1=i*3+1+1+1+1 from rfl,show i*3+1+1+1+2=i*3+2+1+1+1 by omega]
  simp only [List.getD_cons_succ]
  exact ih
theorem yak (H:Hp): ∀p:List (Int×Int),(bvC p).all (s3 H)=true
 |[]=>rfl
 |t::r=>by simp only [bvC,List.all_cons,yak H r,Bool.and_true];rfl
abbrev bvT (p:List (Int×Int)):AV:= .ro 3 p.length (.lst (bvC p))
abbrev bvP (b:Bool) (p:List (Int×Int)):AV:= .agg [.bool b,bvT p]
theorem yrr (h l:Int) (hh: -4611686018427387904<=h/\h<=4611686018427387904) (hl:0<=l/\l<=4611686018427387904) (hv: -1125899906842624<=h*33554432+l/\h*33554432+l<=1125899906842624):Fn Tryz.prog 122 [.agg [I h,I l]] (.tup [I (h*33554432+l), .bool true]):=by
 have hla:=yxn l (by unfold InI;omega)
 obtain ⟨g,hg⟩: ∃g,g=h+l/33554432:=⟨_,rfl⟩
 obtain ⟨r,hr⟩: ∃r,r=l % 33554432:=⟨_,rfl⟩
 rw [←hr] at hla
 have hS:g*33554432+r=h*33554432+l:=by omega
 have hgb: -67108864<=g/\g<=67108864:=by omega
 have h1:=yb1 g 67108864 (by decide) (by decide)
 have h2:=yb1 (h*33554432+l) 1125899906842624 (by decide) (by decide)
 rw [decide_eq_true (by omega),decide_eq_true (by omega),Bool.and_self] at h1 h2
 refine Fn.introL [.tmp 2, .tmp 3] Tryz.func122 rfl rfl (by decide) (by simp [Tryz.ntmps122]) ?_;rw [Tryz.ntmps122]
 have eg:h+l/2^25=g:=by rw [hg];rfl
 have eg2:h+l/33554432=g:=hg.symm
 have eS:g*2^25+r=h*33554432+l:=by rw [←hS];rfl
 repeat' (first|omega|(first|apply yaa|(refine yac.intro (id:=1) yxq yxr (by decide+kernel) mixed ?_)|skip);simp only [go_sem,sevalprocAttr,hla,eg,eg2,↓reduceIte,reduceCtorEq,yxq,yxr]|apply yab<;>(intro h_;(try simp only [h_]);revert h_)|apply And.intro|with_reducible intro h_|trivial|simp only [go_sem,la2];omega)
 refine ⟨yad.fn rfl h1 ?_⟩
 repeat' (first|omega|(try apply yaa);simp only [go_sem,sevalprocAttr,eS,hS]|apply yab<;>(intro h_;(try simp only [h_]);revert h_)|apply And.intro|with_reducible intro h_|trivial|simp only [go_sem,la2];omega)
 refine ⟨yad.fn rfl h2 ?_⟩
 repeat' (first|omega|(try apply yaa);simp only [go_sem,sevalprocAttr]|apply yab<;>(intro h_;(try simp only [h_]);revert h_)|apply And.intro|with_reducible intro h_|trivial|simp only [go_sem,la2];omega)
 all_goals exact LeA.refl _
theorem yk2 (c a z:Int) (hc:c≠0) (hcb: -1125899906842624<=c/\c<=1125899906842624) (ha: -1048576<=a/\a<=1048576) (hz: -1048576<=z/\z<=1048576):Fn Tryz.prog 15 [I c,I a,I z] (bvP false [(bvE a z,c)]):=by
 have eA:bvA (bvE a z)=a:=yee (by omega)
 have eZ:bvZ (bvE a z)=z:=ycx (by omega)
 have h1:=yb1 c 1125899906842624 (by decide) (by decide)
 have h2:=yb1 a 1048576 (by decide) (by decide)
 have h3:=yb1 z 1048576 (by decide) (by decide)
 rw [decide_eq_true (by omega),decide_eq_true (by omega),Bool.and_self] at h1 h2 h3
 have bc:(c==0)=false:=by rw [beq_eq_false_iff_ne];exact hc
 refine Fn.introL [.cell 6 29] Tryz.func15 rfl rfl (by decide) (by simp [Tryz.ntmps15]) ?_;rw [Tryz.ntmps15]
 repeat' (first|omega|(try apply yaa);simp only [go_sem,sevalprocAttr,bc]|(refine ⟨yad.fn (r:=?_) rfl ?_ ?_⟩;rotate_left;assumption)|(refine ⟨yag.fn (r:=?_) rfl ?_ ?_⟩;rotate_left;assumption)|apply yab<;>(intro h_;(try simp only [h_]);revert h_)|apply And.intro|with_reducible intro h_|trivial|simp only [go_sem,la2];omega)
 all_goals exact LeA.of (by show _=AV.agg [.bool false, .ro 3 1 (.lst [I (bvA (bvE a z)),I (bvZ (bvE a z)),I c])];rw [eA,eZ])
end Go.Proofs.YtbblgobamoabkaaGreatDoor
namespace Go.Proofs.YtbblgobamoabkaaGreatDoor
open Go Go.RowKit
set_option maxRecDepth 100000
set_option maxHeartbeats 8000000
set_option linter.unusedVariables false
set_option linter.unusedSimpArgs false
def bvSh (d:Int) (p:List (Int×Int)):List (Int×Int):=p.map fun t=>(t.1+d,t.2)
theorem y1o (d:Int) (p q:List (Int×Int)):bvSh d (p++q)=bvSh d p++bvSh d q:=by simp [bvSh]
theorem ypw (d:Int) (p:List (Int×Int)):(bvSh d p).length=p.length:=by simp [bvSh]
theorem y8f {e a z:Int} (h: -4194304<=bvZ e+z/\bvZ e+z<=4194304):bvA (e+bvE a z)=bvA e+a/\bvZ (e+bvE a z)=bvZ e+z:=by
 have h1:=ym4 (bvA e) (bvZ e) a z
 rw [ycj] at h1
 rw [h1,yee (by omega),ycx (by omega)]
 exact ⟨rfl,rfl⟩
theorem ym6 {f:AV->AV} (hf: ∀x:Int,f (I x)=I x): ∀p:List (Int×Int),(bvC p).map f=bvC p
 |[]=>rfl
 |t::r=>by simp only [bvC,List.map_cons,hf,ym6 hf r]
theorem yst (id:Nat) (p:List (Int×Int)):(bvC p).map (cutV id)=bvC p:=ym6 (fun _=>rfl) p
theorem ypx (H:Hp) (n:Nat) (p:List (Int×Int)):(bvC p).map (snap H (n+1))=bvC p:=ym6 (fun _=>rfl) p
theorem ysu {x:AV}: ∀{p:List (Int×Int)},x∈bvC p-> ∃n,x=I n
 |[],h=>by cases h
 |t::r,h=>by
  simp only [bvC,List.mem_cons] at h
  rcases h with h|h|h|h
  ·exact ⟨_,h⟩
  ·exact ⟨_,h⟩
  ·exact ⟨_,h⟩
  ·exact ysu h
theorem yiy (H:Hp) (n:Nat) {p:List (Int×Int)} {x:AV} (h:x∈bvC p):yat H (n+1) x:=by
 obtain ⟨m,rfl⟩:=ysu h
 trivial
theorem yg6 (p:List (Int×Int)) (a z:Int) (hp:p.length<=100000) (ha: -2097152<=a/\a<=2097152) (hz: -2097152<=z/\z<=2097152) (hb: ∀t∈p,(-1048576<=bvA t.1+a/\bvA t.1+a<=1048576)/\ -1048576<=bvZ t.1+z/\bvZ t.1+z<=1048576):
  Fn Tryz.prog 30 [bvP false p,I a,I z] (bvP false (bvSh (bvE a z) p)):=by
 have hc:=ybl p
 by_cases h0:p.length=0
 ·obtain rfl:p=[]:=List.eq_nil_of_length_eq_zero h0
  refine Fn.introL [.cell 6 29] Tryz.func30 rfl rfl (by decide) (by simp [Tryz.ntmps30]) ?_;rw [Tryz.ntmps30]
  repeat' (first|omega|(try apply yaa);simp only [go_sem,sevalprocAttr]|apply yab<;>(intro h_;(try simp only [h_]);revert h_)|apply And.intro|with_reducible intro h_|trivial|simp only [go_sem,la2];omega)
  all_goals exact LeA.refl _
 have b0:((p.length:Int)==0)=false:=by rw [beq_eq_false_iff_ne];omega
 have h1:=yb1 a 2097152 (by decide) (by decide)
 have h2:=yb1 z 2097152 (by decide) (by decide)
 rw [decide_eq_true (by omega),decide_eq_true (by omega),Bool.and_self] at h1 h2
 refine Fn.introL [.cell 6 29] Tryz.func30 rfl rfl (by decide) (by simp [Tryz.ntmps30]) ?_;rw [Tryz.ntmps30]
 repeat' (first|omega|(try apply yaa);simp only [go_sem,sevalprocAttr,b0,hc]|(refine ⟨yad.fn (r:=?_) rfl ?_ ?_⟩;rotate_left;assumption)|(refine ⟨yag.fn (r:=?_) rfl ?_ ?_⟩;rotate_left;assumption)|apply yab<;>(intro h_;(try simp only [h_]);revert h_)|apply And.intro|with_reducible intro h_|trivial|simp only [go_sem,la2];omega)
 refine yal.intro (fun n fr H=> ∃k:Nat,k<=p.length/\n=p.length-k/\fr=[(36,I k),(35,I p.length),(34,bvT p),(7, .ptr 3 0),(6, .ptr 1 0),(1,I a),(2,I z)]/\
  H=[(3, .cells 29 (.lst [.bool false, .sl 3 2 0 k])),(2, .cells 66 (.lst (bvC (bvSh (bvE a z) (p.take k))))),(1, .cells 29 (.lst [.bool false, .nils]))]) ?_ ?_
 ·refine ⟨_,_,_,Wk.sub ?_ ?_,0,by omega,rfl,rfl,rfl⟩
  ·simp only [go_sem,sevalprocAttr,yak]
  ·simp only [go_sem,sevalprocAttr,yak,List.take_zero,bvSh,List.map_nil,bvC]
   all_goals rfl
 rintro n fr H ⟨k,hk,rfl,rfl,rfl⟩
 have hl:(bvC (bvSh (bvE a z) (p.take k))).length=3*k:=by rw [ybl,ypw,List.length_take];omega
 by_cases hkl:k<p.length
 ·have bk:decide ((k:Int)<p.length)=true:=by simp;omega
  obtain ⟨g0,g1,g2⟩:=ydv p k hkl
  have ht:=hb (p.getD k (0,0)) (by rw [List.getD_eq_getElem?_getD,List.getElem?_eq_getElem hkl];exact List.getElem_mem _)
  have et:p.take (k+1)=p.take k++[p.getD k (0,0)]:=by rw [List.take_succ_eq_append_getElem hkl];simp [hkl]
  have es:bvC (bvSh (bvE a z) (p.take (k+1)))=bvC (bvSh (bvE a z) (p.take k))++[I (bvA (p.getD k (0,0)).1+a),I (bvZ (p.getD k (0,0)).1+z),I (p.getD k (0,0)).2]:=by
   rw [et,y1o,ym5]
   congr 1
   have hs:=y8f (e:=(p.getD k (0,0)).1) (a:=a) (z:=z) (by omega)
   show [I (bvA ((p.getD k (0,0)).1+bvE a z)),I (bvZ ((p.getD k (0,0)).1+bvE a z)),I (p.getD k (0,0)).2]=_
   rw [hs.1,hs.2]
  generalize bvA (p.getD k (0,0)).1=x at*
  generalize bvZ (p.getD k (0,0)).1=y at*
  generalize (p.getD k (0,0)).2=v at*
  have w1:=yb1 (x+a) 1048576 (by decide) (by decide)
  have w2:=yb1 (y+z) 1048576 (by decide) (by decide)
  rw [decide_eq_true (by omega),decide_eq_true (by omega),Bool.and_self] at w1 w2
  clear h1 h2
  repeat' (first|omega|(try apply yaa);simp only [go_sem,sevalprocAttr,bk,hc,g0,g1,g2,hl]|(refine ⟨yad.fn (r:=?_) rfl ?_ ?_⟩;rotate_left;assumption)|(refine ⟨yag.fn (r:=?_) rfl ?_ ?_⟩;rotate_left;assumption)|apply yab<;>(intro h_;(try simp only [h_]);revert h_)|apply And.intro|with_reducible intro h_|trivial|simp only [go_sem,la2];omega)
  refine ⟨_,_,_,?_,Wk.sub ?_ ?_,k+1,by omega,rfl,rfl,rfl⟩
  ·omega
  ·simp only [go_sem,sevalprocAttr,yak]
  ·simp only [go_sem,sevalprocAttr,es,yst,yak,List.all_append]
 ·obtain rfl:k=p.length:=by omega
  have bk:decide ((p.length:Int)<p.length)=false:=by simp
  rw [List.take_length] at hl⊢
  have hsl:=ypw (bvE a z) p
  clear h1 h2
  repeat' (first|omega|(try apply yaa);simp only [go_sem,sevalprocAttr,bk,hl]|apply yab<;>(intro h_;(try simp only [h_]);revert h_)|apply And.intro|with_reducible intro h_|trivial|simp only [go_sem,la2];omega)
  all_goals first
   |exact yiy _ _ ‹_›
   |exact LeA.of (by rw [ypx,List.take_of_length_le (by omega),←hsl])
end Go.Proofs.YtbblgobamoabkaaGreatDoor
set_option linter.unusedSimpArgs false
set_option linter.unusedVariables false
namespace Go.Proofs.YtbblgobamoabkaaGreatDoor
def ybg (R:List Int) (g h:Nat):List Int:=if R.getD g 0=R.getD h 0 then R else R.map fun r=>if r=R.getD g 0 then R.getD h 0 else r
def roots (R:List Int):Nat:=(List.range R.length).countP fun x=>R.getD x 0==(x:Int)
structure RepR (R:List Int) (N:Nat):Prop where
 len:R.length=N
 rng: ∀x,x<N->0<=R.getD x 0/\R.getD x 0<N
 idem: ∀x,x<N->R.getD (R.getD x 0).toNat 0=R.getD x 0
theorem yrs {α β:Type} (l:List α) (f:α->β) (i:Nat) (d:α) (e:β) (h:i<l.length):(l.map f).getD i e=f (l.getD i d):=by simp [h]
section
variable {R:List Int} {N:Nat}
theorem yn8 (R:List Int) (g h:Nat):(ybg R g h).length=R.length:=by unfold ybg;split<;>simp
theorem yb3 (hl:R.length=N) {g h x:Nat} (hx:x<N):(ybg R g h).getD x 0=if R.getD x 0=R.getD g 0 then R.getD h 0 else R.getD x 0:=by
 unfold ybg
 split
 ·rename_i e;split
  ·omega
  ·rfl
 ·rw [yrs _ _ _ 0 _ (by omega)]
theorem yxs (hR:RepR R N) {g h:Nat} (hg:g<N) (hh:h<N):RepR (ybg R g h) N:=by
 refine ⟨by rw [yn8];exact hR.len,fun x hx=>?_,fun x hx=>?_⟩
 ·rw [yb3 hR.len hx];have:=hR.rng x hx;have:=hR.rng h hh;split<;>omega
 ·rw [yb3 hR.len hx]
  have r1:=hR.rng x hx
  have r2:=hR.rng h hh
  by_cases e:R.getD x 0=R.getD g 0
  ·rw [if_pos e,yb3 hR.len (by omega),hR.idem h hh];split<;>rfl
  ·rw [if_neg e,yb3 hR.len (by omega),hR.idem x hx,if_neg e]
theorem yu2 (hl:R.length=N) {g h x y:Nat} (hx:x<N) (hy:y<N) (e:R.getD x 0=R.getD y 0):(ybg R g h).getD x 0=(ybg R g h).getD y 0:=by
 rw [yb3 hl hx,yb3 hl hy,e]
theorem yu3 (hl:R.length=N) {g h:Nat} (hg:g<N) (hh:h<N):(ybg R g h).getD g 0=(ybg R g h).getD h 0:=by
 rw [yb3 hl hg,yb3 hl hh,if_pos rfl];split<;>rfl
theorem yrt (p q:Nat->Bool) (N a:Nat) (ha:a<N) (h1:p a=true) (h2:q a=false) (h: ∀x,x<N->x≠a->p x=q x):(List.range N).countP p=(List.range N).countP q+1:=by
 induction N with
 |zero=>omega
 |succ N ih=>
  rw [List.range_succ,List.countP_append,List.countP_append]
  by_cases e:a=N
  ·subst e
   have:(List.range a).countP p=(List.range a).countP q:=List.countP_congr fun x hx=>by
    have:=List.mem_range.1 hx
    rw [h x (by omega) (by omega)]
   simp [this,h1,h2]
  ·have:=ih (by omega) (fun x hx hn=>h x (by omega) hn)
   have e2:=h N (by omega) (by omega)
   simp only [List.countP_cons,List.countP_nil,e2];omega
theorem yru (hR:RepR R N) {g h:Nat} (hg:g<N) (hh:h<N) (hne:R.getD g 0≠R.getD h 0):roots R=roots (ybg R g h)+1:=by
 have r1:=hR.rng g hg
 unfold roots
 rw [yn8]
 have hl:=hR.len
 refine yrt _ _ R.length (R.getD g 0).toNat (by omega) ?_ ?_ ?_
 ·rw [hR.idem g hg];simp only [beq_iff_eq];omega
 ·rw [yb3 hR.len (by omega),hR.idem g hg,if_pos rfl]
  simp only [beq_eq_false_iff_ne,ne_eq];omega
 ·intro x hx hn
  rw [yb3 hR.len (by omega)]
  by_cases e:R.getD x 0=R.getD g 0
  ·rw [if_pos e,e]
   have e1:(R.getD g 0==(x:Int))=false:=by simp only [beq_eq_false_iff_ne,ne_eq];omega
   have e2:(R.getD h 0==(x:Int))=false:=by
    simp only [beq_eq_false_iff_ne,ne_eq]
    intro e3
    have:=hR.idem h hh
    rw [e3] at this
    simp only [Int.toNat_natCast] at this
    omega
   rw [e1,e2]
  ·rw [if_neg e]
end
structure Inv2 (n:Nat) (mt jn:Int->Int):Prop where
 mr: ∀x,InR n x->InR n (mt x)
 jr: ∀x,InR n x->InR n (jn x)
 mm: ∀x,InR n x->mt (mt x)=x
 jj: ∀x,InR n x->jn (jn x)=x
 mf: ∀x,InR n x->mt x≠x
 jf: ∀x,InR n x->jn x≠x
inductive Cir (mt jn:Int->Int):Int->Int->Prop
 |refl (x:Int):Cir mt jn x x
 |mate {x y:Int} (h:Cir mt jn x y):Cir mt jn x (mt y)
 |join {x y:Int} (h:Cir mt jn x y):Cir mt jn x (jn y)
section
variable {n:Nat} {mt jn:Int->Int}
structure CirR (n:Nat) (mt jn:Int->Int) (R:List Int):Prop where
 rep:RepR R (4*n)
 iff: ∀x y:Nat,x<4*n->y<4*n->(R.getD x 0=R.getD y 0↔Cir mt jn x y)
theorem yfn: ∀{l k:List Nat},l.Nodup->(∀x∈l,x∈k)->l.length<=k.length
 |[],_,_,_=>Nat.zero_le _
 |x::l,k,hn,hs=>by
  have hx:=hs x (by simp)
  obtain ⟨hx',hn'⟩:=List.nodup_cons.1 hn
  have:=yfn (l:=l) (k:=k.erase x) hn' (fun y hy=>(List.mem_erase_of_ne (by intro e;subst e;exact hx' hy)).2 (hs y (by simp [hy])))
  have h2:=List.length_erase_of_mem hx
  have h3:=List.length_pos_of_mem hx
  simp only [List.length_cons];omega
theorem ypy {R L:List Int} (hR:RepR R (4*n)) (hL:RepR L (4*n)) (h: ∀x y:Nat,x<4*n->y<4*n->(R.getD x 0=R.getD y 0↔L.getD x 0=L.getD y 0)):roots L<=roots R:=by
 unfold roots
 rw [List.countP_eq_length_filter,List.countP_eq_length_filter]
 have hlen:((List.range L.length).filter fun x=>L.getD x 0==(x:Int)).length=(((List.range L.length).filter fun x=>L.getD x 0==(x:Int)).map fun x=>(R.getD x 0).toNat).length:=by simp
 rw [hlen]
 refine yfn ?_ ?_
 ·rw [List.nodup_iff_pairwise_ne,List.pairwise_map]
  refine List.Pairwise.imp_of_mem ?_ (List.nodup_iff_pairwise_ne.1 (List.Nodup.sublist List.filter_sublist List.nodup_range))
  intro a b ha hb hne e
  simp only [List.mem_filter,List.mem_range,beq_iff_eq,hL.len] at ha hb
  have r1:=hR.rng a (by omega)
  have r2:=hR.rng b (by omega)
  have:=(h a b (by omega) (by omega)).1 (by omega)
  omega
 ·intro x hx
  simp only [List.mem_map,List.mem_filter,List.mem_range,beq_iff_eq,hL.len] at hx
  obtain ⟨a,⟨ha,_⟩,rfl⟩:=hx
  have r1:=hR.rng a (by omega)
  have:=hR.idem a (by omega)
  simp only [List.mem_filter,List.mem_range,beq_iff_eq,hR.len]
  omega
theorem ym7 (hi:Inv2 n mt jn):Perm (fun x=>jn (mt x)) (4*n) (InR n):=
 ⟨fun x hx=>by unfold InR at hx;omega,fun x hx=>hi.jr _ (hi.mr _ hx),fun x y hx hy e=>by
  have h1:=congrArg jn e
  rw [hi.jj _ (hi.mr _ hx),hi.jj _ (hi.mr _ hy)] at h1
  have h2:=congrArg mt h1
  rwa [hi.mm _ hx,hi.mm _ hy] at h2⟩
theorem y1p (hi:Inv2 n mt jn) {x:Int} (hx:InR n x): ∀d i j,i+d=j->it (fun x=>jn (mt x)) j x≠mt (it (fun x=>jn (mt x)) i x)/\it (fun x=>jn (mt x)) i x≠mt (it (fun x=>jn (mt x)) j x):=by
 have hR: ∀j,InR n (it (fun x=>jn (mt x)) j x):=fun j=>(ym7 hi).it hx j
 have hflip: ∀i j,it (fun x=>jn (mt x)) j x=mt (it (fun x=>jn (mt x)) i x)->it (fun x=>jn (mt x)) i x=mt (it (fun x=>jn (mt x)) j x):=fun i j e=>by rw [e,hi.mm _ (hR i)]
 intro d
 induction d using Nat.strongRecOn with
 |_ d ih=>
  intro i j hd
  have key:it (fun x=>jn (mt x)) j x≠mt (it (fun x=>jn (mt x)) i x):=by
   intro e
   by_cases h0:d=0
   ·obtain rfl:j=i:=by omega
    exact hi.mf _ (hR j) e.symm
   ·by_cases h1:d=1
    ·obtain rfl:j=i+1:=by omega
     exact hi.jf _ (hi.mr _ (hR i)) e
    ·--shift both towards each other
     have e2:it (fun x=>jn (mt x)) (i+1) x=mt (it (fun x=>jn (mt x)) (j-1) x):=by
      show jn (mt (it (fun x=>jn (mt x)) i x))=_
      rw [←e]
      conv=>lhs;rw [show j=(j-1)+1 by omega]
      exact hi.jj _ (hi.mr _ (hR (j-1)))
     exact (ih (d-2) (by omega) (i+1) (j-1) (by omega)).2 e2
  exact ⟨key,fun e=>key (hflip j i e)⟩
end
end Go.Proofs.YtbblgobamoabkaaGreatDoor
set_option linter.unusedSimpArgs false
set_option linter.unusedVariables false
namespace Go.Proofs.YtbblgobamoabkaaGreatDoor
section
variable {l R:List Int} {N:Nat}
end
end Go.Proofs.YtbblgobamoabkaaGreatDoor
set_option linter.unusedSimpArgs false
set_option linter.unusedVariables false
namespace Go.Proofs.YtbblgobamoabkaaGreatDoor
section
variable {n:Nat} {mt jn:Int->Int} {R:List Int}
end
section
variable {m:List Int} {n:Nat} {ch:Nat->Bool}
end
end Go.Proofs.YtbblgobamoabkaaGreatDoor
