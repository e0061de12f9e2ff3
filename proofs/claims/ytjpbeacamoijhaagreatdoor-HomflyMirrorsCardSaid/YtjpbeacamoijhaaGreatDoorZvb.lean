/- Layer 20: the HOMFLY polynomial of a diagram. -/
import Derived.Test.YtjpbeacamoijhaaGreatDoorHp2
import Derived.Test.YtjpbeacamoijhaaGreatDoorZw
import Derived.Shelf.Strings.BuilderK
import Derived.WalkKit
import Derived.BigCall
import Derived.Test.YtjpbeacamoijhaaGreatDoorProg
namespace Go.Proofs.YtjpbeacamoijhaaGreatDoor
open Go Go.RowKit
set_option maxRecDepth 100000
set_option maxHeartbeats 8000000
set_option linter.unusedVariables false
set_option linter.unusedSimpArgs false
theorem LD {s m:List Int} {L:Nat} (h:rU s m L) {p:List (Int×Int)} (hp:dL p (Hs.ng s m L)):Fn Tryz.prog 10 [dgA s m L] (.tup [jo false p,I 0]):=by
 have hV:=yP s m L;rw [h.val] at hV;have hn:=h.n14;have bn:decide ((14:Int)<s.length)=false:=by rw [decide_eq_false_iff_not];omega
 have hr:=YM s m L h p hp [] rR.nil;by_cases h0:s.length=0
 ·have nH:((s.length:Int)==0)=true:=by rw [h0];rfl
  have bL:((L:Int)==0)=false:=by
   rw [beq_eq_false_iff_ne];rcases h.pos with h2|h2<;>omega
  refine Fn.aH [.cell 2 29, .tmp 3] Tryz.func10 rfl rfl (by decide) (by simp [Tryz.ntmps10]) ?_;rw [Tryz.ntmps10]
  repeat' (first|omega|(try apply ah);simp only [go_sem,sevalprocAttr,nH,bL,bn]|(refine ⟨aO.fn (r:=?_) rfl ?_ ?_⟩;rotate_left;assumption)|(refine ⟨c8.fn (r:=?_) rfl ?_ ?_⟩;rotate_left;assumption)|apply ag<;>(intro h_;(try simp only [h_]);revert h_)|apply And.intro|with_reducible intro h_|trivial|simp only [go_sem,ai];omega)
  refine ⟨aO.inline (hr _ ?_ _ _ fun H' l' w1 w2 w3 w5=>?_)⟩
  ·constructor<;>(simp only [go_sem,sevalprocAttr])
  obtain ⟨i5,i4,i3,i2,iN⟩:=w2;simp only [go_sem,sevalprocAttr] at w3 w5;have u1:=w5 1 (by omega) (by omega);simp only [go_sem,sevalprocAttr] at u1;have y1: ∀o,hget (hset H' 1 o) 1=some o:=fun o=>sN u1;generalize hM:hnew H'=M at*;obtain ⟨M1,tE⟩: ∃x,M+1=x:=⟨_,rfl⟩;have kB:(M=2)=False:=eq_false (by omega);have kU:(2=M)=False:=eq_false (by omega);have kz:(M=3)=False:=eq_false (by omega)
  have kM:(3=M)=False:=eq_false (by omega);have ky:(M=4)=False:=eq_false (by omega);have kK:(4=M)=False:=eq_false (by omega);have kx:(M=5)=False:=eq_false (by omega);have kH:(5=M)=False:=eq_false (by omega);have fY:(M1=2)=False:=eq_false (by omega);have gG:(2=M1)=False:=eq_false (by omega);have fX:(M1=3)=False:=eq_false (by omega);have gy:(3=M1)=False:=eq_false (by omega)
  have fW:(M1=4)=False:=eq_false (by omega);have gq:(4=M1)=False:=eq_false (by omega);have fV:(M1=5)=False:=eq_false (by omega);have gh:(5=M1)=False:=eq_false (by omega);have fU:(M1=M)=False:=eq_false (by omega);have fP:(M=M1)=False:=eq_false (by omega);have gL:(M1<=M)=False:=eq_false (by omega);have CM:(M=0)=False:=eq_false (by omega)
  have CS:(0=M)=False:=eq_false (by omega);have CL:(M=1)=False:=eq_false (by omega);have CR:(1=M)=False:=eq_false (by omega);have xN:(M1=0)=False:=eq_false (by omega);have xT:(0=M1)=False:=eq_false (by omega);have xM:(M1=1)=False:=eq_false (by omega);have xS:(1=M1)=False:=eq_false (by omega)
  repeat' (first|omega|(try apply ah);simp only [go_sem,sevalprocAttr,hM,i2,i3,i4,i5,u1,y1,tE,kB,kU,kz,kM,ky,kK,kx,kH,fY,gG,fX,gy,fW,gq,fV,gh,fU,fP,gL,CM,CS,CL,CR,xN,xT,xM,xS]|(refine ⟨aO.fn (r:=?_) rfl ?_ ?_⟩;rotate_left;assumption)|(refine ⟨c8.fn (r:=?_) rfl ?_ ?_⟩;rotate_left;assumption)|apply ag<;>(intro h_;(try simp only [h_]);revert h_)|apply And.intro|with_reducible intro h_|trivial|simp only [go_sem,ai];omega)
  all_goals exact ca.refl _
 ·have nH:((s.length:Int)==0)=false:=by rw [beq_eq_false_iff_ne];omega
  refine Fn.aH [.cell 2 29, .tmp 3] Tryz.func10 rfl rfl (by decide) (by simp [Tryz.ntmps10]) ?_;rw [Tryz.ntmps10]
  repeat' (first|omega|(try apply ah);simp only [go_sem,sevalprocAttr,nH,bn]|(refine ⟨aO.fn (r:=?_) rfl ?_ ?_⟩;rotate_left;assumption)|(refine ⟨c8.fn (r:=?_) rfl ?_ ?_⟩;rotate_left;assumption)|apply ag<;>(intro h_;(try simp only [h_]);revert h_)|apply And.intro|with_reducible intro h_|trivial|simp only [go_sem,ai];omega)
  refine ⟨aO.inline (hr _ ?_ _ _ fun H' l' w1 w2 w3 w5=>?_)⟩
  ·constructor<;>(simp only [go_sem,sevalprocAttr])
  obtain ⟨i5,i4,i3,i2,iN⟩:=w2;simp only [go_sem,sevalprocAttr] at w3 w5;have u1:=w5 1 (by omega) (by omega);simp only [go_sem,sevalprocAttr] at u1;have y1: ∀o,hget (hset H' 1 o) 1=some o:=fun o=>sN u1;generalize hM:hnew H'=M at*;obtain ⟨M1,tE⟩: ∃x,M+1=x:=⟨_,rfl⟩;have kB:(M=2)=False:=eq_false (by omega);have kU:(2=M)=False:=eq_false (by omega);have kz:(M=3)=False:=eq_false (by omega)
  have kM:(3=M)=False:=eq_false (by omega);have ky:(M=4)=False:=eq_false (by omega);have kK:(4=M)=False:=eq_false (by omega);have kx:(M=5)=False:=eq_false (by omega);have kH:(5=M)=False:=eq_false (by omega);have fY:(M1=2)=False:=eq_false (by omega);have gG:(2=M1)=False:=eq_false (by omega);have fX:(M1=3)=False:=eq_false (by omega);have gy:(3=M1)=False:=eq_false (by omega)
  have fW:(M1=4)=False:=eq_false (by omega);have gq:(4=M1)=False:=eq_false (by omega);have fV:(M1=5)=False:=eq_false (by omega);have gh:(5=M1)=False:=eq_false (by omega);have fU:(M1=M)=False:=eq_false (by omega);have fP:(M=M1)=False:=eq_false (by omega);have gL:(M1<=M)=False:=eq_false (by omega);have CM:(M=0)=False:=eq_false (by omega)
  have CS:(0=M)=False:=eq_false (by omega);have CL:(M=1)=False:=eq_false (by omega);have CR:(1=M)=False:=eq_false (by omega);have xN:(M1=0)=False:=eq_false (by omega);have xT:(0=M1)=False:=eq_false (by omega);have xM:(M1=1)=False:=eq_false (by omega);have xS:(1=M1)=False:=eq_false (by omega)
  repeat' (first|omega|(try apply ah);simp only [go_sem,sevalprocAttr,hM,i2,i3,i4,i5,u1,y1,tE,kB,kU,kz,kM,ky,kK,kx,kH,fY,gG,fX,gy,fW,gq,fV,gh,fU,fP,gL,CM,CS,CL,CR,xN,xT,xM,xS]|(refine ⟨aO.fn (r:=?_) rfl ?_ ?_⟩;rotate_left;assumption)|(refine ⟨c8.fn (r:=?_) rfl ?_ ?_⟩;rotate_left;assumption)|apply ag<;>(intro h_;(try simp only [h_]);revert h_)|apply And.intro|with_reducible intro h_|trivial|simp only [go_sem,ai];omega)
  all_goals exact ca.refl _
end Go.Proofs.YtjpbeacamoijhaaGreatDoor
namespace Go.Proofs.YtjpbeacamoijhaaGreatDoor
set_option linter.unusedSimpArgs false
set_option linter.unusedVariables false
def insR:List (Int×Int)->Int×Int->List (Int×Int)
 |[],t=>[t]
 |u::l,t=>if u.1<t.1 then u::insR l t else if u.1=t.1 then (u.1,u.2+t.2)::l else t::u::l
theorem QJ (e:Int): ∀(l:List (Int×Int)) (t:Int×Int),cfL (insR l t) e=cfL l e+if t.1=e then t.2 else 0
 |[],t=>by simp only [insR,cfL];omega
 |u::l,t=>by
  simp only [insR]
  split
  ·simp only [cfL];rw [QJ e l t];omega
  ·split
   ·rename_i he
    simp only [cfL];by_cases h:t.1=e
    ·rw [if_pos (by omega),if_pos (by omega),if_pos h];omega
    ·rw [if_neg (by omega),if_neg (by omega),if_neg h];omega
   ·simp only [cfL];omega
theorem QI {u:Int×Int}: ∀{l:List (Int×Int)} {t:Int×Int},u∈insR l t->u∈l\/u.1=t.1
 |[],t,h=>by simp only [insR,List.mem_singleton] at h;exact .inr (by rw [h])
 |v::l,t,h=>by
  simp only [insR] at h
  split at h
  ·rcases List.mem_cons.1 h with rfl|h
   ·exact .inl (List.mem_cons_self ..)
   ·exact (QI h).imp (List.mem_cons_of_mem _) id
  ·split at h
   ·rename_i he
    rcases List.mem_cons.1 h with rfl|h
    ·exact .inr he
    ·exact .inl (List.mem_cons_of_mem _ h)
   ·rcases List.mem_cons.1 h with rfl|h
    ·exact .inr rfl
    ·exact .inl h
theorem QH: ∀{l:List (Int×Int)} (t:Int×Int),(l.Pairwise fun a b=>a.1<b.1)->(insR l t).Pairwise fun a b=>a.1<b.1
 |[],t,_=>by simp [insR]
 |u::l,t,h=>by
  have h':=List.pairwise_cons.1 h;simp only [insR]
  split
  ·rename_i hu
   refine List.pairwise_cons.2 ⟨fun v hv=>?_,QH t h'.2⟩;rcases QI hv with hv|hv
   ·exact h'.1 v hv
   ·omega
  ·split
   ·exact List.pairwise_cons.2 ⟨h'.1,h'.2⟩
   ·refine List.pairwise_cons.2 ⟨fun v hv=>?_,h⟩;rcases List.mem_cons.1 hv with rfl|hv
    ·omega
    ·have:=h'.1 v hv;omega
def uF:List (Int×Int)->List (Int×Int)
 |l=>l.foldl insR []
theorem RS (Q:List (Int×Int)->List (Int×Int)->Prop) (h0:Q [] []) (hs: ∀l r t,Q l r->Q (l++[t]) (insR r t)) (l:List (Int×Int)):Q l (uF l):=by
 have gen: ∀(l a r:List (Int×Int)),Q a r->Q (a++l) (l.foldl insR r):=by
  intro l
  induction l with
  |nil=>intro a r h;simpa using h
  |cons t l ih=>intro a r h;have:=ih (a++[t]) (insR r t) (hs a r t h);simpa using this
 exact gen l [] [] h0
theorem y4w (l:List (Int×Int)) (e:Int):cfL (uF l) e=cfL l e:=by
 refine RS (fun l r=>cfL r e=cfL l e) rfl (fun l r t h=>?_) l;rw [QJ,h,It];simp only [cfL];omega
theorem y4x (l:List (Int×Int)):(uF l).Pairwise fun a b=>a.1<b.1:=RS (fun _ r=>r.Pairwise fun a b=>a.1<b.1) .nil (fun _ _ t h=>QH t h) l
theorem QG {l:List (Int×Int)} {f:Int->Int} (h: ∀e,cfL l e=f e):dL (nz (uF l)) f:=⟨Y3 (y4x l),fun e=>by rw [Y4,y4w,h]⟩
open Sp
set_option maxRecDepth 100000
def Bq (d c:Int) (p:List (Int×Int)):List (Int×Int):=p.map fun t=>(t.1+d,c*t.2)
theorem Ek (d c:Int): ∀(p:List (Int×Int)) (e:Int),cfL (Bq d c p) e=c*cfL p (e-d)
 |[],_=>by simp [Bq,cfL]
 |t::p,e=>by
  have ih:=Ek d c p e;simp only [Bq,List.map_cons,cfL] at ih⊢;rw [ih,Int.mul_add];by_cases h:t.1+d=e
  ·rw [if_pos h,if_pos (by omega)]
  ·rw [if_neg h,if_neg (by omega)];simp
def Jx:Nat->List (Int×Int)
 |0=>[(0,1)]
 |n+1=>nz (uF (Bq (bB (-1) (-1)) 1 (Jx n)++Bq (bB 1 (-1)) (-1) (Jx n)))
theorem UY: ∀n:Nat,n<=900->dL (Jx n) (Hs.XE (n+1))
 |0,_=>Hs.Ht
 |n+1,h=>by
  have ih:=UY n (by omega);refine QG fun e=>?_;rw [It,Ek,Ek,ih.cf,ih.cf,Hs.Hr n (by omega)];omega
def hmT:Nat->List Int->List Int->Nat->Option (List (Int×Int))
 |0,_,_,_=>none
 |f+1,s,m,l=>match mN s m with
  |none=>some (Jx (l+(dt s m).length-1))
  |some c=>match hmT f (jR s c.toNat) (jc s m c.toNat) l,hmT f (de s c.toNat) (en s m c.toNat) (gP s m c.toNat l).toNat with
   |some p,some q=>some (nz (uF (Bq (bB (2*s.getD c.toNat 0) 0) 1 p++Bq (bB (s.getD c.toNat 0) 1) (s.getD c.toNat 0) q)))
   |_,_=>none
theorem UX: ∀s m l,rU s m l-> ∀f p,hmT f s m l=some p->dL p (Hs.ng s m l):=by
 refine QM (fun s m l h hb f p hp=>?_) fun s m l c l' h hb hc mC ox h1 e1 h2 e2 i1 i2 f p hp=>?_
 ·cases f with
  |zero=>cases hp
  |succ f=>
   unfold hmT at hp;rw [hb] at hp;cases hp;have h3:=EO s m;have h4:=(dr h.val).len;have h5:=h.len;have h6:1<=l+(dt s m).length:=by
    rcases h.pos with h3|h3
    ·have:=mS (dr h.val) h3;omega
    ·omega
   have:=UY (l+(dt s m).length-1) (by omega)
   rw [Nat.sub_add_cancel h6] at this;exact this.congr fun e=>(Hs.rF h.val hb e).symm
 ·cases f with
  |zero=>cases hp
  |succ f=>
   unfold hmT at hp;rw [hb] at hp;dsimp only at hp;rw [Int.toNat_natCast,ox,Int.toNat_natCast] at hp
   split at hp
   ·rename_i p1 q1 g1 g2
    cases hp;have j1:=i1 f p1 g1;have j2:=i2 f q1 g2;have hlen:=h.len;have B6:=h2.len;refine QG fun e=>?_;rw [It,Ek,Ek,j1.cf,j2.cf,Hs.rE h.val hc ox h2.val h1.val (by omega) (by omega) e1,Int.one_mul]
   ·cases hp
theorem ZJ:dL [(bB 2 0,2),(bB 2 2,1),(bB 4 0,-1)] (Hs.ng [1,1,1] [9,4,7,10,1,8,11,2,5,0,3,6] (0:Nat)):=
 UX _ _ _ ⟨by decide+kernel,by decide,by decide,by decide⟩ 20 _ (by decide+kernel)
theorem MD:dL [(bB (-1) (-1),1),(bB 1 (-1),-1)] (Hs.ng [] [] (2:Nat)):=
 UX _ _ _ ⟨by decide+kernel,by decide,by decide,by decide⟩ 20 _ (by decide+kernel)
end Go.Proofs.YtjpbeacamoijhaaGreatDoor
set_option linter.unusedSimpArgs false
set_option linter.unusedVariables false
namespace Go.Proofs.YtjpbeacamoijhaaGreatDoor
open Go Go.RowKit Go.Shelf
set_option maxHeartbeats 4000000
set_option maxRecDepth 100000
theorem QF:(Tryz.prog.info? 82).map (·.size)=some 2:=by kernel_rfl
theorem ZI:liesAt Tryz.prog Tryz.prog.depth 82 (2/Tryz.prog.cellsOf 82) 0 82 1=true:=by kernel_rfl
theorem KC:Tryz.prog.underlying 79=some (.pointer 82):=by kernel_rfl
theorem UW:Tryz.prog.underlying 166=some .unsafePointer:=by kernel_rfl
theorem RA:(Tryz.prog.info? 5).map (fun i=>(i.zero,i.size,i.bytes))=some (some (.int .u8 0),1,1):=by kernel_rfl
theorem Qe:Tryz.prog.underlying 80=some (.slice 5):=by kernel_rfl
theorem Fc:Tryz.prog.underlying 9=some .string:=by kernel_rfl
theorem y4y (b:Nat) (w:World) (h0:w.cell? ⟨b,0,none⟩=some (.pointer (some ⟨b,0,none⟩))):
  Calls Tryz.prog 99 #[.pointer (some ⟨b,0,none⟩)] w fun e w'=>e= .returned (.tuple #[])/\w'=w:=by
 obtain ⟨j,hj,_⟩:=Option.map_eq_some_iff.1 QF
 go_enter Tryz.func99,Tryz.ntmps99
 go_wp2
 rw [Lib.run_neq_ptr_same w _ KC hj]
 go_wp2
 go_end0
 exact ⟨rfl,rfl⟩
theorem y13 (b:Nat) (w:World) (h0:w.cell? ⟨b,0,none⟩=some (.pointer none)) (V5:w.shape? b=some (82,2)) (hfz:w.frozen? ⟨b,0,none⟩=false):
  Calls Tryz.prog 99 #[.pointer (some ⟨b,0,none⟩)] w fun e w'=>e= .returned (.tuple #[])/\w'=w.setCell ⟨b,0,none⟩ (.pointer (some ⟨b,0,none⟩)):=by
 obtain ⟨j,hj,hjs⟩:=Option.map_eq_some_iff.1 QF
 go_enter Tryz.func99,Tryz.ntmps99
 go_wp2
 rw [Lib.run_to_unsafe w ⟨b,0,none⟩ KC UW hj (by rw [hjs];decide) V5 (Nat.zero_lt_succ 1)];simp only [Result.andThen];rw [Oper.upon_value]
 go_wp2
 rw [run_callFunc_extern Tryz.func149 (by kernel_rfl) (by kernel_rfl) (by kernel_rfl) (e:=Extern.AbiNoEscape.same) (by kernel_rfl)];rw [Lib.run_noEscape];simp only [Result.andThen];rw [Oper.upon_value]
 go_wp2
 rw [Lib.run_from_unsafe w ⟨b,0,none⟩ UW KC hj V5 ZI];simp only [Result.andThen];rw [Oper.upon_value]
 go_wp2
 go_end0
 exact ⟨rfl,rfl⟩
theorem S7 (B b:Nat) (bs:List Value) (w:World) (h:Lib.IsBuilderF 82 5 B b bs w):
  Calls Tryz.prog 99 #[.pointer (some ⟨b,0,none⟩)] w fun e w'=>e= .returned (.tuple #[])/\(Lib.BuilderAtF 82 5 B b (.pointer (some ⟨b,0,none⟩)) bs w'/\Below B w w'/\Lib.OthersKept 5 (some b) w w'):=by
 rcases h with h|h
 ·refine (y13 b w h.cell0 h.shape h.frozen0).mono ?_;rintro e w' ⟨rfl,rfl⟩;exact ⟨rfl,h.used _,(Below.refl B w).setCell (p:=⟨b,0,none⟩) h.1 _,(Lib.OthersKept.refl _ _ w).setCell ⟨b,0,none⟩ rfl _⟩
 ·refine (y4y b w h.cell0).mono ?_;rintro e w' ⟨rfl,rfl⟩;exact ⟨rfl,h,Below.refl B _,Lib.OthersKept.refl _ _ _⟩
theorem y4z (B b:Nat) (bs:List Value) (c:Int) (w:World) (h:Lib.IsBuilderF 82 5 B b bs w) (hlen:bs.length+1<=140737488355328) (hBw:B<=w.heap.size):
  Calls Tryz.prog 51 #[.pointer (some ⟨b,0,none⟩), .int .u8 c] w fun e w'=>e= .returned .nilIface/\(Lib.BuilderAtF 82 5 B b (.pointer (some ⟨b,0,none⟩)) (bs++[.int .u8 c]) w'/\Below B w w'/\Lib.OthersKept 5 (some b) w w'):=by
 obtain ⟨i0,hi,qN,nB,pt⟩:=info_parts RA
 go_enter Tryz.func51,Tryz.ntmps51
 go_wp2_with (go_at_call 99;refine (S7 B b bs _ h).mono ?_)
 rintro e w1 ⟨rfl,h1,iE,AL⟩;obtain ⟨hB,v,qP,kj,ax⟩:=h1;have c0:w1.cell? ⟨b,0,none⟩=some (.pointer (some ⟨b,0,none⟩)):=by rw [Lib.cell_of_heap qP];rfl
 have c1:w1.cell? ⟨b,1,none⟩=some v:=by rw [Lib.cell_of_heap qP];rfl
 go_wp2_with (at_builtin;refine wpList_append_ownF _ rfl _ _ 80 rfl B 5 i0 (.int .u8 0) 1 1 Qe hi qN nB pt rfl (by decide) _ _ _ rfl (kj.alloc _) ⟨w1.heap.size,0,none⟩ 1 1 [.int .u8 c] rfl rfl ?c1 ?c2 ?c3 ?c4 ?c5 ?_)
 case c1=>
  intro j u hj
  match j,hj with
  |0,hj=>simp at hj;subst hj;simp [Addr.add]
 case c2=>intro u hu;simp at hu;subst hu;rfl
 case c3=>unfold maxLen;omega
 case c4=>omega
 case c5=>have:=iE.size;simp;omega
 intro v' w2 ry oA _;have ay:b<w1.heap.size:=by
  rcases Nat.lt_or_ge b w1.heap.size with h'|h'
  ·exact h'
  ·simp [Array.getElem?_eq_none h'] at qP
 have s9:w2.heap[b]?=some (.cells #[.pointer (some ⟨b,0,none⟩),v] 82 (0,0)):=by
  rw [oA.block b (by simp;omega) (fun e=>ax e.symm),Lib.alloc_old w1 _ b ay];exact qP
 have d0:w2.cell? ⟨b,0,none⟩=some (.pointer (some ⟨b,0,none⟩)):=by rw [Lib.cell_of_heap s9];rfl
 have d1:w2.cell? ⟨b,1,none⟩=some v:=by rw [Lib.cell_of_heap s9];rfl
 have f1:w2.frozen? ⟨b,1,none⟩=false:=Lib.frozen_of_heap s9 1;obtain ⟨g,cap,rfl⟩: ∃g cap,v'= .slice (some ⟨g,0,none⟩) (bs.length+1) cap:=by
  rcases ry.2 with ⟨_,h0⟩|⟨g,cap,cur,fz,hv,_⟩
  ·omega
  ·exact ⟨g,cap,hv⟩
 go_wp2
 go_ret
 refine ⟨rfl,?_,?_,((AL.alloc _).grown oA (Lib.ownsRowF_kind (kj.alloc _))).setCell ⟨b,1,none⟩ rfl _⟩
 ·exact Lib.BuilderAtF.put (T:=82) (e:=5) hB s9 (bs':=bs++[.int .u8 c]) (by simpa using ry) (by decide)
 ·exact ((iE.alloc (by have:=iE.size;omega) _).grown oA (by have:=iE.size;simp;omega) (fun k hk=>(kj.lt k hk).1)).setCell (p:=⟨b,1,none⟩) hB _
theorem ZH (B b:Nat) (bs:List Value) (s:ByteArray) (w:World) (h:Lib.IsBuilderF 82 5 B b bs w) (hlen:bs.length+s.size<=140737488355328) (hBw:B<=w.heap.size):
  Calls Tryz.prog 50 #[.pointer (some ⟨b,0,none⟩), .string s] w fun e w'=>e= .returned (.tuple #[.int .i64 s.size, .nilIface])/\(Lib.BuilderAtF 82 5 B b (.pointer (some ⟨b,0,none⟩)) (bs++Lib.strCells s) w'/\Below B w w'/\Lib.OthersKept 5 (some b) w w'):=by
 obtain ⟨i0,hi,qN,nB,pt⟩:=info_parts RA
 go_enter Tryz.func50,Tryz.ntmps50
 go_wp2_with (go_at_call 99;refine (S7 B b bs _ h).mono ?_)
 rintro e w1 ⟨rfl,h1,iE,AL⟩;obtain ⟨hB,v,qP,kj,ax⟩:=h1;have c0:w1.cell? ⟨b,0,none⟩=some (.pointer (some ⟨b,0,none⟩)):=by rw [Lib.cell_of_heap qP];rfl
 have c1:w1.cell? ⟨b,1,none⟩=some v:=by rw [Lib.cell_of_heap qP];rfl
 go_wp2_with (at_builtin;refine Lib.wpList_append_own_stringF _ rfl _ _ 80 9 rfl B 5 i0 Qe Fc hi qN nB pt _ _ _ rfl kj s rfl ?c3 ?c4 ?c5 ?_)
 case c3=>unfold maxLen;omega
 case c4=>omega
 case c5=>have:=iE.size;omega
 intro v' w2 ry oA _;have ay:b<w1.heap.size:=by
  rcases Nat.lt_or_ge b w1.heap.size with h'|h'
  ·exact h'
  ·simp [Array.getElem?_eq_none h'] at qP
 have s9:w2.heap[b]?=some (.cells #[.pointer (some ⟨b,0,none⟩),v] 82 (0,0)):=by
  rw [oA.block b ay (fun e=>ax e.symm)];exact qP
 have d0:w2.cell? ⟨b,0,none⟩=some (.pointer (some ⟨b,0,none⟩)):=by rw [Lib.cell_of_heap s9];rfl
 have d1:w2.cell? ⟨b,1,none⟩=some v:=by rw [Lib.cell_of_heap s9];rfl
 have f1:w2.frozen? ⟨b,1,none⟩=false:=Lib.frozen_of_heap s9 1;obtain ⟨ao,n',cap,rfl⟩: ∃ao n' cap,v'= .slice ao n' cap:=by
  rcases ry.2 with ⟨hv,_⟩|⟨g,cap,cur,fz,hv,_⟩
  ·exact ⟨_,_,_,hv⟩
  ·exact ⟨_,_,_,hv⟩
 go_wp2
 go_ret2
 refine ⟨rfl,?_,?_,(AL.grown oA (Lib.ownsRowF_kind kj)).setCell ⟨b,1,none⟩ rfl _⟩
 ·exact Lib.BuilderAtF.put (T:=82) (e:=5) hB s9 (bs':=bs++Lib.strCells s) (by simpa [Lib.strCells_length] using ry) (by decide)
 ·exact (iE.grown oA (by have:=iE.size;omega) (fun k hk=>(kj.lt k hk).1)).setCell (p:=⟨b,1,none⟩) hB _
end Go.Proofs.YtjpbeacamoijhaaGreatDoor
