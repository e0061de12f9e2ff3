/- Layer 20: the HOMFLY polynomial of a diagram. -/
import Derived.Test.YtjpbeacamoijhaaDoorHp2
import Derived.Test.YtjpbeacamoijhaaDoorZt
import Derived.Shelf.Strings.BuilderK
import Derived.WalkKit
import Derived.BigCall
import Derived.Test.YtjpbeacamoijhaaDoorProg
namespace Go.Proofs.YtjpbeacamoijhaaDoor
open Go Go.RowKit
set_option maxRecDepth 100000
set_option maxHeartbeats 8000000
set_option linter.unusedVariables false
set_option linter.unusedSimpArgs false
theorem yme {s m:List Int} {L:Nat} (h:yc8 s m L) {p:List (Int×Int)} (hp:yaw p (Hs.hfE s m L)):Fn Tryd.prog 15 [dgA s m L] (.tup [bvP false p,I 0]):=by
 have hV:=yeu s m L
 rw [h.val] at hV
 have hn:=h.n14
 have bn:decide ((14:Int)<s.length)=false:=by rw [decide_eq_false_iff_not];omega
 have hr:=ysk s m L h p hp [] PwOk.nil
 by_cases h0:s.length=0
 ·have hb0:((s.length:Int)==0)=true:=by rw [h0];rfl
  have bL:((L:Int)==0)=false:=by
   rw [beq_eq_false_iff_ne]
   rcases h.pos with h2|h2<;>omega
  refine Fn.introL [.cell 2 33, .tmp 3] Tryd.func15 rfl rfl (by decide) (by simp [Tryd.ntmps15]) ?_;rw [Tryd.ntmps15]
  repeat' (first|omega|(try apply yaa);simp only [go_sem,sevalprocAttr,hb0,bL,bn]|(refine ⟨yad.fn (r:=?_) rfl ?_ ?_⟩;rotate_left;assumption)|(refine ⟨yan.fn (r:=?_) rfl ?_ ?_⟩;rotate_left;assumption)|apply yab<;>(intro h_;(try simp only [h_]);revert h_)|apply And.intro|with_reducible intro h_|trivial|simp only [go_sem,la2];omega)
  refine ⟨yad.inline (hr _ ?_ _ _ fun H' l' w1 w2 w3 w5=>?_)⟩
  ·constructor<;>(simp only [go_sem,sevalprocAttr])
  obtain ⟨i5,i4,i3,i2,iN⟩:=w2
  simp only [go_sem,sevalprocAttr] at w3 w5
  have u1:=w5 1 (by omega) (by omega)
  simp only [go_sem,sevalprocAttr] at u1
  have y1: ∀o,hget (hset H' 1 o) 1=some o:=fun o=>ya5 u1
  generalize hM:hnew H'=M at*
  obtain ⟨M1,EM1⟩: ∃x,M+1=x:=⟨_,rfl⟩
  have FqM2:(M=2)=False:=eq_false (by omega)
  have Fq2M:(2=M)=False:=eq_false (by omega)
  have FqM3:(M=3)=False:=eq_false (by omega)
  have Fq3M:(3=M)=False:=eq_false (by omega)
  have FqM4:(M=4)=False:=eq_false (by omega)
  have Fq4M:(4=M)=False:=eq_false (by omega)
  have FqM5:(M=5)=False:=eq_false (by omega)
  have Fq5M:(5=M)=False:=eq_false (by omega)
  have FqM12:(M1=2)=False:=eq_false (by omega)
  have Fq2M1:(2=M1)=False:=eq_false (by omega)
  have FqM13:(M1=3)=False:=eq_false (by omega)
  have Fq3M1:(3=M1)=False:=eq_false (by omega)
  have FqM14:(M1=4)=False:=eq_false (by omega)
  have Fq4M1:(4=M1)=False:=eq_false (by omega)
  have FqM15:(M1=5)=False:=eq_false (by omega)
  have Fq5M1:(5=M1)=False:=eq_false (by omega)
  have FqM1M:(M1=M)=False:=eq_false (by omega)
  have FqMM1:(M=M1)=False:=eq_false (by omega)
  have FlM1M:(M1<=M)=False:=eq_false (by omega)
  have FqM0:(M=0)=False:=eq_false (by omega)
  have Fq0M:(0=M)=False:=eq_false (by omega)
  have FqM1:(M=1)=False:=eq_false (by omega)
  have Fq1M:(1=M)=False:=eq_false (by omega)
  have FqM10:(M1=0)=False:=eq_false (by omega)
  have Fq0M1:(0=M1)=False:=eq_false (by omega)
  have FqM11:(M1=1)=False:=eq_false (by omega)
  have Fq1M1:(1=M1)=False:=eq_false (by omega)
  repeat' (first|omega|(try apply yaa);simp only [go_sem,sevalprocAttr,hM,i2,i3,i4,i5,u1,y1,EM1,FqM2,Fq2M,FqM3,Fq3M,FqM4,Fq4M,FqM5,Fq5M,FqM12,Fq2M1,FqM13,Fq3M1,FqM14,Fq4M1,FqM15,Fq5M1,FqM1M,FqMM1,FlM1M,FqM0,Fq0M,FqM1,Fq1M,FqM10,Fq0M1,FqM11,Fq1M1]|(refine ⟨yad.fn (r:=?_) rfl ?_ ?_⟩;rotate_left;assumption)|(refine ⟨yan.fn (r:=?_) rfl ?_ ?_⟩;rotate_left;assumption)|apply yab<;>(intro h_;(try simp only [h_]);revert h_)|apply And.intro|with_reducible intro h_|trivial|simp only [go_sem,la2];omega)
  all_goals exact LeA.refl _
 ·have hb0:((s.length:Int)==0)=false:=by rw [beq_eq_false_iff_ne];omega
  refine Fn.introL [.cell 2 33, .tmp 3] Tryd.func15 rfl rfl (by decide) (by simp [Tryd.ntmps15]) ?_;rw [Tryd.ntmps15]
  repeat' (first|omega|(try apply yaa);simp only [go_sem,sevalprocAttr,hb0,bn]|(refine ⟨yad.fn (r:=?_) rfl ?_ ?_⟩;rotate_left;assumption)|(refine ⟨yan.fn (r:=?_) rfl ?_ ?_⟩;rotate_left;assumption)|apply yab<;>(intro h_;(try simp only [h_]);revert h_)|apply And.intro|with_reducible intro h_|trivial|simp only [go_sem,la2];omega)
  refine ⟨yad.inline (hr _ ?_ _ _ fun H' l' w1 w2 w3 w5=>?_)⟩
  ·constructor<;>(simp only [go_sem,sevalprocAttr])
  obtain ⟨i5,i4,i3,i2,iN⟩:=w2
  simp only [go_sem,sevalprocAttr] at w3 w5
  have u1:=w5 1 (by omega) (by omega)
  simp only [go_sem,sevalprocAttr] at u1
  have y1: ∀o,hget (hset H' 1 o) 1=some o:=fun o=>ya5 u1
  generalize hM:hnew H'=M at*
  obtain ⟨M1,EM1⟩: ∃x,M+1=x:=⟨_,rfl⟩
  have FqM2:(M=2)=False:=eq_false (by omega)
  have Fq2M:(2=M)=False:=eq_false (by omega)
  have FqM3:(M=3)=False:=eq_false (by omega)
  have Fq3M:(3=M)=False:=eq_false (by omega)
  have FqM4:(M=4)=False:=eq_false (by omega)
  have Fq4M:(4=M)=False:=eq_false (by omega)
  have FqM5:(M=5)=False:=eq_false (by omega)
  have Fq5M:(5=M)=False:=eq_false (by omega)
  have FqM12:(M1=2)=False:=eq_false (by omega)
  have Fq2M1:(2=M1)=False:=eq_false (by omega)
  have FqM13:(M1=3)=False:=eq_false (by omega)
  have Fq3M1:(3=M1)=False:=eq_false (by omega)
  have FqM14:(M1=4)=False:=eq_false (by omega)
  have Fq4M1:(4=M1)=False:=eq_false (by omega)
  have FqM15:(M1=5)=False:=eq_false (by omega)
  have Fq5M1:(5=M1)=False:=eq_false (by omega)
  have FqM1M:(M1=M)=False:=eq_false (by omega)
  have FqMM1:(M=M1)=False:=eq_false (by omega)
  have FlM1M:(M1<=M)=False:=eq_false (by omega)
  have FqM0:(M=0)=False:=eq_false (by omega)
  have Fq0M:(0=M)=False:=eq_false (by omega)
  have FqM1:(M=1)=False:=eq_false (by omega)
  have Fq1M:(1=M)=False:=eq_false (by omega)
  have FqM10:(M1=0)=False:=eq_false (by omega)
  have Fq0M1:(0=M1)=False:=eq_false (by omega)
  have FqM11:(M1=1)=False:=eq_false (by omega)
  have Fq1M1:(1=M1)=False:=eq_false (by omega)
  repeat' (first|omega|(try apply yaa);simp only [go_sem,sevalprocAttr,hM,i2,i3,i4,i5,u1,y1,EM1,FqM2,Fq2M,FqM3,Fq3M,FqM4,Fq4M,FqM5,Fq5M,FqM12,Fq2M1,FqM13,Fq3M1,FqM14,Fq4M1,FqM15,Fq5M1,FqM1M,FqMM1,FlM1M,FqM0,Fq0M,FqM1,Fq1M,FqM10,Fq0M1,FqM11,Fq1M1]|(refine ⟨yad.fn (r:=?_) rfl ?_ ?_⟩;rotate_left;assumption)|(refine ⟨yan.fn (r:=?_) rfl ?_ ?_⟩;rotate_left;assumption)|apply yab<;>(intro h_;(try simp only [h_]);revert h_)|apply And.intro|with_reducible intro h_|trivial|simp only [go_sem,la2];omega)
  all_goals exact LeA.refl _
end Go.Proofs.YtjpbeacamoijhaaDoor
namespace Go.Proofs.YtjpbeacamoijhaaDoor
set_option linter.unusedSimpArgs false
set_option linter.unusedVariables false
def insR:List (Int×Int)->Int×Int->List (Int×Int)
 |[],t=>[t]
 |u::l,t=>if u.1<t.1 then u::insR l t else if u.1=t.1 then (u.1,u.2+t.2)::l else t::u::l
theorem yvb (e:Int): ∀(l:List (Int×Int)) (t:Int×Int),cfL (insR l t) e=cfL l e+if t.1=e then t.2 else 0
 |[],t=>by simp only [insR,cfL];omega
 |u::l,t=>by
  simp only [insR]
  split
  ·simp only [cfL];rw [yvb e l t];omega
  ·split
   ·rename_i he
    simp only [cfL]
    by_cases h:t.1=e
    ·rw [if_pos (by omega),if_pos (by omega),if_pos h];omega
    ·rw [if_neg (by omega),if_neg (by omega),if_neg h];omega
   ·simp only [cfL];omega
theorem yvc {u:Int×Int}: ∀{l:List (Int×Int)} {t:Int×Int},u∈insR l t->u∈l\/u.1=t.1
 |[],t,h=>by simp only [insR,List.mem_singleton] at h;exact .inr (by rw [h])
 |v::l,t,h=>by
  simp only [insR] at h
  split at h
  ·rcases List.mem_cons.1 h with rfl|h
   ·exact .inl (List.mem_cons_self ..)
   ·exact (yvc h).imp (List.mem_cons_of_mem _) id
  ·split at h
   ·rename_i he
    rcases List.mem_cons.1 h with rfl|h
    ·exact .inr he
    ·exact .inl (List.mem_cons_of_mem _ h)
   ·rcases List.mem_cons.1 h with rfl|h
    ·exact .inr rfl
    ·exact .inl h
theorem yvd: ∀{l:List (Int×Int)} (t:Int×Int),(l.Pairwise fun a b=>a.1<b.1)->(insR l t).Pairwise fun a b=>a.1<b.1
 |[],t,_=>by simp [insR]
 |u::l,t,h=>by
  have h':=List.pairwise_cons.1 h
  simp only [insR]
  split
  ·rename_i hu
   refine List.pairwise_cons.2 ⟨fun v hv=>?_,yvd t h'.2⟩
   rcases yvc hv with hv|hv
   ·exact h'.1 v hv
   ·omega
  ·split
   ·exact List.pairwise_cons.2 ⟨h'.1,h'.2⟩
   ·refine List.pairwise_cons.2 ⟨fun v hv=>?_,h⟩
    rcases List.mem_cons.1 hv with rfl|hv
    ·omega
    ·have:=h'.1 v hv;omega
def sumR:List (Int×Int)->List (Int×Int)
 |l=>l.foldl insR []
theorem ysl (Q:List (Int×Int)->List (Int×Int)->Prop) (h0:Q [] []) (hs: ∀l r t,Q l r->Q (l++[t]) (insR r t)) (l:List (Int×Int)):Q l (sumR l):=by
 have gen: ∀(l a r:List (Int×Int)),Q a r->Q (a++l) (l.foldl insR r):=by
  intro l
  induction l with
  |nil=>intro a r h;simpa using h
  |cons t l ih=>intro a r h;have:=ih (a++[t]) (insR r t) (hs a r t h);simpa using this
 exact gen l [] [] h0
theorem y3c (l:List (Int×Int)) (e:Int):cfL (sumR l) e=cfL l e:=by
 refine ysl (fun l r=>cfL r e=cfL l e) rfl (fun l r t h=>?_) l
 rw [yvb,h,ykt]
 simp only [cfL];omega
theorem y3d (l:List (Int×Int)):(sumR l).Pairwise fun a b=>a.1<b.1:=ysl (fun _ r=>r.Pairwise fun a b=>a.1<b.1) .nil (fun _ _ t h=>yvd t h) l
theorem yve {l:List (Int×Int)} {f:Int->Int} (h: ∀e,cfL l e=f e):yaw (nz (sumR l)) f:=⟨y71 (y3d l),fun e=>by rw [y70,y3c,h]⟩
end Go.Proofs.YtjpbeacamoijhaaDoor
namespace Go.Proofs.YtjpbeacamoijhaaDoor
open Sp
set_option linter.unusedSimpArgs false
set_option linter.unusedVariables false
set_option maxRecDepth 100000
def shL (d c:Int) (p:List (Int×Int)):List (Int×Int):=p.map fun t=>(t.1+d,c*t.2)
theorem yh8 (d c:Int): ∀(p:List (Int×Int)) (e:Int),cfL (shL d c p) e=c*cfL p (e-d)
 |[],_=>by simp [shL,cfL]
 |t::p,e=>by
  have ih:=yh8 d c p e
  simp only [shL,List.map_cons,cfL] at ih⊢
  rw [ih,Int.mul_add]
  by_cases h:t.1+d=e
  ·rw [if_pos h,if_pos (by omega)]
  ·rw [if_neg h,if_neg (by omega)];simp
def xeL:Nat->List (Int×Int)
 |0=>[(0,1)]
 |n+1=>nz (sumR (shL (bvE (-1) (-1)) 1 (xeL n)++shL (bvE 1 (-1)) (-1) (xeL n)))
theorem y0l: ∀n:Nat,n<=900->yaw (xeL n) (Hs.XE (n+1))
 |0,_=>Hs.XE_1
 |n+1,h=>by
  have ih:=y0l n (by omega)
  refine yve fun e=>?_
  rw [ykt,yh8,yh8,ih.cf,ih.cf,Hs.XE_S n (by omega)]
  omega
def hmT:Nat->List Int->List Int->Nat->Option (List (Int×Int))
 |0,_,_,_=>none
 |f+1,s,m,l=>match badO s m with
  |none=>some (xeL (l+(yak s m).length-1))
  |some c=>match hmT f (swS s c.toNat) (swM s m c.toNat) l,hmT f (smS s c.toNat) (smM s m c.toNat) (smLp s m c.toNat l).toNat with
   |some p,some q=>some (nz (sumR (shL (bvE (2*s.getD c.toNat 0) 0) 1 p++shL (bvE (s.getD c.toNat 0) 1) (s.getD c.toNat 0) q)))
   |_,_=>none
theorem y0m: ∀s m l,yc8 s m l-> ∀f p,hmT f s m l=some p->yaw p (Hs.hfE s m l):=by
 refine yu9 (fun s m l h hb f p hp=>?_) fun s m l c l' h hb hc hsg hl' h1 e1 h2 e2 i1 i2 f p hp=>?_
 ·cases f with
  |zero=>cases hp
  |succ f=>
   unfold hmT at hp
   rw [hb] at hp
   cases hp
   have h3:=yfb s m
   have h4:=(yal h.val).len
   have h5:=h.len
   have h6:1<=l+(yak s m).length:=by
    rcases h.pos with h3|h3
    ·have:=strands_pos (yal h.val) h3;omega
    ·omega
   have:=y0l (l+(yak s m).length-1) (by omega)
   rw [Nat.sub_add_cancel h6] at this
   exact this.congr fun e=>(Hs.hfE_desc h.val hb e).symm
 ·cases f with
  |zero=>cases hp
  |succ f=>
   unfold hmT at hp
   rw [hb] at hp
   dsimp only at hp
   rw [Int.toNat_natCast,hl',Int.toNat_natCast] at hp
   split at hp
   ·rename_i p1 q1 g1 g2
    cases hp
    have j1:=i1 f p1 g1
    have j2:=i2 f q1 g2
    have hlen:=h.len
    have hl2:=h2.len
    refine yve fun e=>?_
    rw [ykt,yh8,yh8,j1.cf,j2.cf,Hs.hfE_step h.val hc hl' h2.val h1.val (by omega) (by omega) e1,Int.one_mul]
   ·cases hp
theorem y6u:yaw [(bvE 2 0,2),(bvE 2 2,1),(bvE 4 0,-1)] (Hs.hfE [1,1,1] [9,4,7,10,1,8,11,2,5,0,3,6] (0:Nat)):=
 y0m _ _ _ ⟨by decide+kernel,by decide,by decide,by decide⟩ 20 _ (by decide+kernel)
theorem y8l:yaw [(bvE (-1) (-1),1),(bvE 1 (-1),-1)] (Hs.hfE [] [] (2:Nat)):=
 y0m _ _ _ ⟨by decide+kernel,by decide,by decide,by decide⟩ 20 _ (by decide+kernel)
end Go.Proofs.YtjpbeacamoijhaaDoor
set_option linter.unusedSimpArgs false
set_option linter.unusedVariables false
namespace Go.Proofs.YtjpbeacamoijhaaDoor
open Go Go.RowKit Go.Shelf
set_option maxHeartbeats 4000000
set_option maxRecDepth 100000
theorem yvf:(Tryd.prog.info? 67).map (·.size)=some 2:=by kernel_rfl
theorem y6v:liesAt Tryd.prog Tryd.prog.depth 67 (2/Tryd.prog.cellsOf 67) 0 67 1=true:=by kernel_rfl
theorem ysm:Tryd.prog.underlying 64=some (.pointer 67):=by kernel_rfl
theorem y0n:Tryd.prog.underlying 103=some .unsafePointer:=by kernel_rfl
theorem ysn:(Tryd.prog.info? 5).map (fun i=>(i.zero,i.size,i.bytes))=some (some (.int .u8 0),1,1):=by kernel_rfl
theorem yvg:Tryd.prog.underlying 65=some (.slice 5):=by kernel_rfl
theorem y94:Tryd.prog.underlying 9=some .string:=by kernel_rfl
theorem y3e (b:Nat) (w:World) (h0:w.cell? ⟨b,0,none⟩=some (.pointer (some ⟨b,0,none⟩))):
  Calls Tryd.prog 53 #[.pointer (some ⟨b,0,none⟩)] w fun e w'=>e= .returned (.tuple #[])/\w'=w:=by
 obtain ⟨j,hj,_⟩:=Option.map_eq_some_iff.1 yvf
 go_enter Tryd.func53,Tryd.ntmps53
 go_wp2
 rw [Lib.run_neq_ptr_same w _ ysm hj]
 go_wp2
 go_end0
 exact ⟨rfl,rfl⟩
theorem y0o (b:Nat) (w:World) (h0:w.cell? ⟨b,0,none⟩=some (.pointer none)) (hsh:w.shape? b=some (67,2)) (hfz:w.frozen? ⟨b,0,none⟩=false):
  Calls Tryd.prog 53 #[.pointer (some ⟨b,0,none⟩)] w fun e w'=>e= .returned (.tuple #[])/\w'=w.setCell ⟨b,0,none⟩ (.pointer (some ⟨b,0,none⟩)):=by
 obtain ⟨j,hj,hjs⟩:=Option.map_eq_some_iff.1 yvf
 go_enter Tryd.func53,Tryd.ntmps53
 go_wp2
 rw [Lib.run_to_unsafe w ⟨b,0,none⟩ ysm y0n hj (by rw [hjs];decide) hsh (Nat.zero_lt_succ 1)]
 simp only [Result.andThen]
 rw [Oper.upon_value]
 go_wp2
 rw [run_callFunc_extern Tryd.func69 (by kernel_rfl) (by kernel_rfl) (by kernel_rfl) (e:=Extern.AbiNoEscape.same) (by kernel_rfl)]
 rw [Lib.run_noEscape]
 simp only [Result.andThen]
 rw [Oper.upon_value]
 go_wp2
 rw [Lib.run_from_unsafe w ⟨b,0,none⟩ y0n ysm hj hsh y6v]
 simp only [Result.andThen]
 rw [Oper.upon_value]
 go_wp2
 go_end0
 exact ⟨rfl,rfl⟩
theorem ypi (B b:Nat) (bs:List Value) (w:World) (h:Lib.IsBuilderF 67 5 B b bs w):
  Calls Tryd.prog 53 #[.pointer (some ⟨b,0,none⟩)] w fun e w'=>e= .returned (.tuple #[])/\(Lib.BuilderAtF 67 5 B b (.pointer (some ⟨b,0,none⟩)) bs w'/\Below B w w'/\Lib.OthersKept 5 (some b) w w'):=by
 rcases h with h|h
 ·refine (y0o b w h.cell0 h.shape h.frozen0).mono ?_
  rintro e w' ⟨rfl,rfl⟩
  exact ⟨rfl,h.used _,(Below.refl B w).setCell (p:=⟨b,0,none⟩) h.1 _,(Lib.OthersKept.refl _ _ w).setCell ⟨b,0,none⟩ rfl _⟩
 ·refine (y3e b w h.cell0).mono ?_
  rintro e w' ⟨rfl,rfl⟩
  exact ⟨rfl,h,Below.refl B _,Lib.OthersKept.refl _ _ _⟩
theorem y3f (B b:Nat) (bs:List Value) (c:Int) (w:World) (h:Lib.IsBuilderF 67 5 B b bs w) (hlen:bs.length+1<=140737488355328) (hBw:B<=w.heap.size):
  Calls Tryd.prog 37 #[.pointer (some ⟨b,0,none⟩), .int .u8 c] w fun e w'=>e= .returned .nilIface/\(Lib.BuilderAtF 67 5 B b (.pointer (some ⟨b,0,none⟩)) (bs++[.int .u8 c]) w'/\Below B w w'/\Lib.OthersKept 5 (some b) w w'):=by
 obtain ⟨i0,hi,hz0,hz1,hz2⟩:=info_parts ysn
 go_enter Tryd.func37,Tryd.ntmps37
 go_wp2_with (go_at_call 53;refine (ypi B b bs _ h).mono ?_)
 rintro e w1 ⟨rfl,h1,hb1,hk1⟩
 obtain ⟨hB,v,hbk,hown,hne⟩:=h1
 have c0:w1.cell? ⟨b,0,none⟩=some (.pointer (some ⟨b,0,none⟩)):=by rw [Lib.cell_of_heap hbk];rfl
 have c1:w1.cell? ⟨b,1,none⟩=some v:=by rw [Lib.cell_of_heap hbk];rfl
 go_wp2_with (at_builtin;refine wpList_append_ownF _ rfl _ _ 65 rfl B 5 i0 (.int .u8 0) 1 1 yvg hi hz0 hz1 hz2 rfl (by decide) _ _ _ rfl (hown.alloc _) ⟨w1.heap.size,0,none⟩ 1 1 [.int .u8 c] rfl rfl ?c1 ?c2 ?c3 ?c4 ?c5 ?_)
 case c1=>
  intro j u hj
  match j,hj with
  |0,hj=>simp at hj;subst hj;simp [Addr.add]
 case c2=>intro u hu;simp at hu;subst hu;rfl
 case c3=>unfold maxLen;omega
 case c4=>omega
 case c5=>have:=hb1.size;simp;omega
 intro v' w2 hown' hgrow _
 have hlt:b<w1.heap.size:=by
  rcases Nat.lt_or_ge b w1.heap.size with h'|h'
  ·exact h'
  ·simp [Array.getElem?_eq_none h'] at hbk
 have hb2:w2.heap[b]?=some (.cells #[.pointer (some ⟨b,0,none⟩),v] 67 (0,0)):=by
  rw [hgrow.block b (by simp;omega) (fun e=>hne e.symm),Lib.alloc_old w1 _ b hlt]
  exact hbk
 have d0:w2.cell? ⟨b,0,none⟩=some (.pointer (some ⟨b,0,none⟩)):=by rw [Lib.cell_of_heap hb2];rfl
 have d1:w2.cell? ⟨b,1,none⟩=some v:=by rw [Lib.cell_of_heap hb2];rfl
 have f1:w2.frozen? ⟨b,1,none⟩=false:=Lib.frozen_of_heap hb2 1
 obtain ⟨g,cap,rfl⟩: ∃g cap,v'= .slice (some ⟨g,0,none⟩) (bs.length+1) cap:=by
  rcases hown'.2 with ⟨_,h0⟩|⟨g,cap,cur,fz,hv,_⟩
  ·omega
  ·exact ⟨g,cap,hv⟩
 go_wp2
 go_ret
 refine ⟨rfl,?_,?_,((hk1.alloc _).grown hgrow (Lib.ownsRowF_kind (hown.alloc _))).setCell ⟨b,1,none⟩ rfl _⟩
 ·exact Lib.BuilderAtF.put (T:=67) (e:=5) hB hb2 (bs':=bs++[.int .u8 c]) (by simpa using hown') (by decide)
 ·exact ((hb1.alloc (by have:=hb1.size;omega) _).grown hgrow (by have:=hb1.size;simp;omega) (fun k hk=>(hown.lt k hk).1)).setCell (p:=⟨b,1,none⟩) hB _
theorem y6w (B b:Nat) (bs:List Value) (s:ByteArray) (w:World) (h:Lib.IsBuilderF 67 5 B b bs w) (hlen:bs.length+s.size<=140737488355328) (hBw:B<=w.heap.size):
  Calls Tryd.prog 36 #[.pointer (some ⟨b,0,none⟩), .string s] w fun e w'=>e= .returned (.tuple #[.int .i64 s.size, .nilIface])/\(Lib.BuilderAtF 67 5 B b (.pointer (some ⟨b,0,none⟩)) (bs++Lib.strCells s) w'/\Below B w w'/\Lib.OthersKept 5 (some b) w w'):=by
 obtain ⟨i0,hi,hz0,hz1,hz2⟩:=info_parts ysn
 go_enter Tryd.func36,Tryd.ntmps36
 go_wp2_with (go_at_call 53;refine (ypi B b bs _ h).mono ?_)
 rintro e w1 ⟨rfl,h1,hb1,hk1⟩
 obtain ⟨hB,v,hbk,hown,hne⟩:=h1
 have c0:w1.cell? ⟨b,0,none⟩=some (.pointer (some ⟨b,0,none⟩)):=by rw [Lib.cell_of_heap hbk];rfl
 have c1:w1.cell? ⟨b,1,none⟩=some v:=by rw [Lib.cell_of_heap hbk];rfl
 go_wp2_with (at_builtin;refine Lib.wpList_append_own_stringF _ rfl _ _ 65 9 rfl B 5 i0 yvg y94 hi hz0 hz1 hz2 _ _ _ rfl hown s rfl ?c3 ?c4 ?c5 ?_)
 case c3=>unfold maxLen;omega
 case c4=>omega
 case c5=>have:=hb1.size;omega
 intro v' w2 hown' hgrow _
 have hlt:b<w1.heap.size:=by
  rcases Nat.lt_or_ge b w1.heap.size with h'|h'
  ·exact h'
  ·simp [Array.getElem?_eq_none h'] at hbk
 have hb2:w2.heap[b]?=some (.cells #[.pointer (some ⟨b,0,none⟩),v] 67 (0,0)):=by
  rw [hgrow.block b hlt (fun e=>hne e.symm)]
  exact hbk
 have d0:w2.cell? ⟨b,0,none⟩=some (.pointer (some ⟨b,0,none⟩)):=by rw [Lib.cell_of_heap hb2];rfl
 have d1:w2.cell? ⟨b,1,none⟩=some v:=by rw [Lib.cell_of_heap hb2];rfl
 have f1:w2.frozen? ⟨b,1,none⟩=false:=Lib.frozen_of_heap hb2 1
 obtain ⟨ao,n',cap,rfl⟩: ∃ao n' cap,v'= .slice ao n' cap:=by
  rcases hown'.2 with ⟨hv,_⟩|⟨g,cap,cur,fz,hv,_⟩
  ·exact ⟨_,_,_,hv⟩
  ·exact ⟨_,_,_,hv⟩
 go_wp2
 go_ret2
 refine ⟨rfl,?_,?_,(hk1.grown hgrow (Lib.ownsRowF_kind hown)).setCell ⟨b,1,none⟩ rfl _⟩
 ·exact Lib.BuilderAtF.put (T:=67) (e:=5) hB hb2 (bs':=bs++Lib.strCells s) (by simpa [Lib.strCells_length] using hown') (by decide)
 ·exact (hb1.grown hgrow (by have:=hb1.size;omega) (fun k hk=>(hown.lt k hk).1)).setCell (p:=⟨b,1,none⟩) hB _
end Go.Proofs.YtjpbeacamoijhaaDoor
