/- Layer 12: Flip. -/
import Derived.Test.YtmdjdekgakidhaaGreatDoorZn
import Derived.Test.YtmdjdekgakidhaaGreatDoorZo
import Derived.Test.YtmdjdekgakidhaaGreatDoorZm
set_option linter.unusedSimpArgs false
set_option linter.unusedVariables false
namespace Go.Proofs.YtmdjdekgakidhaaGreatDoor
open Go Go.RowKit
set_option maxRecDepth 100000
set_option maxHeartbeats 8000000
def y13:List (List Nat):=[[15,16,17,18,19,20,21,22,23,24,25],[14,16,17,18,19,20,21,22,23,24,25],[14,15,17,18,19,20,21,22,23,24,25,26],[14,15,16,18,19,20,21,22,23,24,25,26],[14,15,16,17,19,22,23,24,25],[14,15,16,17,18,22,23,24,25],[14,15,16,17,22,23,24,25],[14,15,16,17,22,23,24,25],[14,15,16,17,18,19,20,21,23],[14,15,16,17,18,19,20,21,22],[14,15,16,17,18,19,20,21],[14,15,16,17,18,19,20,21],[16,17],[16,17],[],[]]
def y14:List (List Nat):=[[],[0],[0,1],[0,1,2],[0,1,2,3],[0,1,2,3,4],[0,1,2,3],[0,1,2,3],[0,1,2,3,4,5,6,7],[0,1,2,3,4,5,6,7,8],[0,1,2,3,4,5,6,7],[0,1,2,3,4,5,6,7],[2,3],[2,3],[],[]]
def yeh:List (List Nat):=[[],[],[],[],[],[52,53,54,55,56],[52,53,54,55,56],[52,53,54,55,56],[52,53,54,55,56],[52,53,54,55,56],[47,48,49,50,51],[47,48,49,50,51],[47,48,49,50,51],[47,48,49,50,51],[47,48,49,50,51],[],[]]
def yei:List (List Nat):=[[],[],[],[],[],[],[],[],[],[],[5,6,7,8,9],[5,6,7,8,9],[5,6,7,8,9],[5,6,7,8,9],[5,6,7,8,9],[],[]]
def ngP (p:List (Int×Int)):List (Int×Int):=p.map fun t=>(-t.1,t.2)
def flP (p:List (Int×Int)):List (Int×Int):=(ngP p).reverse
theorem y89 (p:List (Int×Int)):(ngP p).length=p.length:=by simp [ngP]
theorem ypu: ∀(p:List (Int×Int)) (i:Nat) (e c:Int),((tmC p).set (i*2) (I e)).set (i*2+1) (I c)=tmC (p.set i (e,c))
 |[],i,e,c=>by simp [tmC]
 |t::p,0,e,c=>by simp [tmC]
 |t::p,i+1,e,c=>by
  have:=ypu p i e c
  have e1:tmC (t::p)=I t.1::I t.2::tmC p:=rfl
  have e2:(i+1)*2=(i*2)+1+1:=by omega
  have e3:(i+1)*2+1=(i*2+1)+1+1:=by omega
  rw [e1,e3,e2,List.set_cons_succ,List.set_cons_succ,List.set_cons_succ,List.set_cons_succ,this]
  rfl
def rvK (q:List (Int×Int)) (i:Nat):List (Int×Int):=(List.range q.length).map fun x=>q.getD (if x<i\/q.length<=x+i then q.length-1-x else x) (0,0)
theorem yd8 (q:List (Int×Int)) (i:Nat):(rvK q i).length=q.length:=by simp [rvK]
theorem ygy (q:List (Int×Int)) (i x:Nat) (h:x<q.length):(rvK q i).getD x (0,0)=q.getD (if x<i\/q.length<=x+i then q.length-1-x else x) (0,0):=by
 unfold rvK
 simp only [List.getD_eq_getElem?_getD,List.getElem?_map,List.getElem?_range h,Option.map_some,Option.getD_some]
theorem yna {l k:List (Int×Int)} (hl:l.length=k.length) (h: ∀x,x<l.length->l.getD x (0,0)=k.getD x (0,0)):l=k:=by
 refine List.ext_getElem hl fun x h1 h2=>?_
 have:=h x h1
 simpa [List.getD_eq_getElem?_getD,h1,h2] using this
theorem rvK_0 (q:List (Int×Int)):rvK q 0=q:=by
 refine yna (yd8 q 0) fun x hx=>?_
 rw [yd8] at hx
 rw [ygy q 0 x hx,if_neg (by omega)]
theorem yqs (l:List (Int×Int)) (i j:Nat) (v:Int×Int) (hi:i<l.length):(l.set i v).getD j (0,0)=if i=j then v else l.getD j (0,0):=by
 by_cases h:i=j
 ·subst h;simp [hi]
 ·rw [if_neg h];simp [List.getD_eq_getElem?_getD,List.getElem?_set_ne h]
theorem y47 (q:List (Int×Int)) (i j:Nat) (hj:j=q.length-1-i) (h:i<j):((rvK q i).set i ((rvK q i).getD j (0,0))).set j ((rvK q i).getD i (0,0))=rvK q (i+1):=by
 refine yna (by simp [yd8]) fun x hx=>?_
 simp only [List.length_set,yd8] at hx
 rw [yqs _ _ _ _ (by simp [yd8];omega),yqs _ _ _ _ (by rw [yd8];omega),ygy q (i+1) x hx,ygy q i x hx,ygy q i i (by omega),ygy q i j (by omega)]
 by_cases e1:j=x
 ·subst e1
  rw [if_pos rfl,if_neg (by omega),if_pos (by omega)]
  congr 1;omega
 ·rw [if_neg e1]
  by_cases e2:i=x
  ·subst e2
   rw [if_pos rfl,if_neg (by omega),if_pos (by omega)]
   congr 1
  ·rw [if_neg e2]
   by_cases e3:x<i\/q.length<=x+i
   ·rw [if_pos e3,if_pos (by omega)]
   ·rw [if_neg e3,if_neg (by omega)]
theorem y9a (q:List (Int×Int)) (i:Nat) (h:q.length<=2*i+1):rvK q i=q.reverse:=by
 refine yna (by simp [yd8]) fun x hx=>?_
 rw [yd8] at hx
 rw [ygy q i x hx]
 have:q.reverse.getD x (0,0)=q.getD (q.length-1-x) (0,0):=by simp [List.getD_eq_getElem?_getD,List.getElem?_reverse hx]
 rw [this]
 split
 ·rfl
 ·congr 1;omega
abbrev rvH (p:List (Int×Int)) (q:List (Int×Int)) (n:Nat):Hp:=[(3, .cells 29 (.lst [.bool false, .sl 2 2 0 n])),(2, .cells 62 (.lst (tmC q))),(1, .cells 29 (.lst [.bool false, .nils])),(0, .cells 29 (.lst [.bool false,tmA p]))]
theorem yt9 (p q:List (Int×Int)) (hn:q.length<=500000) (h2:1<q.length) {fr:Fr} {K:AV->Fr->Hp->Prop} (hfr: ∀H':Hp,(hget H' 0).isSome=true->(hget H' 1).isSome=true->(hget H' 2).isSome=true->(hget H' 3).isSome=true-> ∀t,fget fr t= .any\/s3 H' (fget fr t)=true)
  (hK:K (.tup []) fr (rvH p q.reverse q.length)):ybh Tryz.prog 88 [.sl 2 2 0 q.length] fr (rvH p q q.length) K:=by
 refine ybh.intro [] Tryz.func88 rfl rfl (by decide) (by simp [Tryz.ntmps88]) ?_;rw [Tryz.ntmps88]
 repeat' (first|omega|(try apply yaa);simp only [go_sem,sevalprocAttr]|apply yad<;>(intro h_;(try simp only [h_]);revert h_)|apply yac|apply yab|apply gspI|apply And.intro|with_reducible intro h_|trivial|simp only [go_sem,la2];omega)
 refine yai.intro (fun n fr' H=> ∃i:Nat,2*i<=q.length/\n=q.length-i/\fr'=[(2,I i),(3,I ((q.length:Int)-1-i)),(0, .sl 2 2 0 q.length)]++lft fr/\H=rvH p (rvK q i) q.length) ?_ ?_
 ·refine ⟨_,_,_,?_,0,by omega,rfl,rfl,rfl⟩
  rw [rvK_0]
  refine Wk.app ?_ ?_ (hfr _ rfl rfl rfl rfl) (fun t ht=>?_) rfl<;>(simp only [go_sem,sevalprocAttr,yba])
  all_goals repeat rw [if_neg (by omega)]
 rintro n fr' H ⟨i,hi,rfl,rfl,rfl⟩
 have hL:=yd8 q i
 have hlen:=yb7 (rvK q i)
 by_cases hij:2*i+1<q.length
 ·obtain ⟨j,hj⟩: ∃j:Nat,j=q.length-1-i:=⟨_,rfl⟩
  have hjc:(q.length:Int)-1-i=(j:Int):=by omega
  have st:=y47 q i j hj (by omega)
  have bij:decide ((i:Int)<j)=true:=by simp;omega
  have g0:=ycp (rvK q i) i (by omega)
  have g1:=yen (rvK q i) i (by omega)
  have k0:=ycp (rvK q i) j (by omega)
  have k1:=yen (rvK q i) j (by omega)
  rw [hjc]
  repeat' (first|omega|(first|apply yaa|(refine yae.intro (id:=3) y13 y14 (by decide+kernel) mixed ?_)|skip);simp only [go_sem,sevalprocAttr,bij,g0,g1,k0,k1,hlen,hL,Int.toNat_natCast,↓reduceIte,reduceCtorEq,y13,y14]|apply yad<;>(intro h_;(try simp only [h_]);revert h_)|apply yac|apply yab|apply gspI|apply And.intro|with_reducible intro h_|trivial|simp only [go_sem,la2];omega)
  rw [ypu,ypu,st]
  have hjc2:(j:Int)-1=(q.length:Int)-1-((i+1:Nat):Int):=by omega
  rw [hjc2]
  refine ⟨_,_,_,?_,?_,⟨i+1,by omega,rfl,rfl,rfl⟩⟩
  ·omega
  ·refine Wk.app (A:=[(2,I ((i:Int)+1)),(3,I ((q.length:Int)-1-((i+1:Nat):Int))),(0, .sl 2 2 0 q.length)]) ?_ ?_ (hfr (rvH p (rvK q (i+1)) q.length) rfl rfl rfl rfl) (fun t ht=>?_) rfl<;>(simp only [go_sem,sevalprocAttr,yba])
   all_goals repeat rw [if_neg (by omega)]
 ·have bij:decide ((i:Int)<(q.length:Int)-1-i)=false:=by simp;omega
  rw [y9a q i (by omega)]
  repeat' (first|omega|(try apply yaa);simp only [go_sem,sevalprocAttr,bij]|apply yad<;>(intro h_;(try simp only [h_]);revert h_)|apply yac|apply yab|apply gspI|apply And.intro|with_reducible intro h_|trivial|simp only [go_sem,la2];omega)
theorem y48 (x:Int) (h0: -1048576<=x) (h1:x<=1048576):Fn Tryz.prog 47 [I x] (I (-x)):=by
 have e:(0:Int)-x= -x:=by omega
 refine Fn.intro [.tmp 2] Tryz.func47 rfl rfl (by decide) (by simp [Tryz.ntmps47]) ?_;rw [Tryz.ntmps47]
 repeat' (first|omega|(try apply yaa);simp only [go_sem,sevalprocAttr,e]|apply yad<;>(intro h_;(try simp only [h_]);revert h_)|apply yac|apply yab|apply gspI|apply And.intro|with_reducible intro h_|trivial|simp only [go_sem,la2];omega)
theorem y15 (p:List (Int×Int)) (hp: ∀t∈p,-1048576<=t.1/\t.1<=1048576) (hasc:1<p.length->(p.getD 0 (0,0)).1<(p.getD 1 (0,0)).1) (hl:p.length<=500000):
  Fn Tryz.prog 46 [plA false p, .fn 47 []] (plA false (flP p)):=by
 refine Fn.introL [.cell 4 29] Tryz.func46 rfl rfl (by decide) (by simp [Tryz.ntmps46]) ?_;rw [Tryz.ntmps46]
 repeat' (first|omega|(try apply yaa);simp only [go_sem,sevalprocAttr]|apply yad<;>(intro h_;(try simp only [h_]);revert h_)|apply yac|apply yab|apply gspI|apply And.intro|with_reducible intro h_|trivial|simp only [go_sem,la2];omega)
 refine yai.intro (fun n fr H=> ∃i:Nat,i<=p.length/\n=p.length-i/\fr=[(20,I i),(19,I p.length),(18,tmA p),(5, .ptr 3 0),(4, .ptr 1 0),(2, .ptr 0 0),(1, .fn 47 [])]/\H=rvH p (ngP (p.take i)) i) ?_ ?_
 ·refine ⟨_,_,_,?_,0,by omega,rfl,rfl,rfl⟩
  refine Wk.sub ?_ ?_<;>simp only [go_sem,sevalprocAttr]
  all_goals simp [ngP,tmC]
 rintro n fr H ⟨i,hi,rfl,rfl,rfl⟩
 by_cases hil:i<p.length
 ·have t0:=ycp p i hil
  have t1:=yen p i hil
  have hm:p.getD i (0,0)∈p:=by simp [hil]
  have bi:decide ((i:Int)<p.length)=true:=by simp;omega
  have hp1:=hp _ hm
  have hs:=y48 (p.getD i (0,0)).1 (by omega) (by omega)
  have hw:=yj7 (-(p.getD i (0,0)).1) 1048576 (by omega) (by omega)
  rw [show fitB (-(p.getD i (0,0)).1) 1048576=true by unfold fitB;rw [Bool.and_eq_true,decide_eq_true_eq,decide_eq_true_eq];omega] at hw
  repeat' (first|omega|(first|apply yaa|(refine yae.intro (id:=12) yeh yei (by decide+kernel) mixed ?_)|skip);simp only [go_sem,sevalprocAttr,t0,t1,bi,↓reduceIte,reduceCtorEq,yeh,yei]|apply yad<;>(intro h_;(try simp only [h_]);revert h_)|apply yac|apply yab|apply gspI|apply And.intro|with_reducible intro h_|trivial|simp only [go_sem,la2];omega)
  refine ⟨yaf.fn rfl hs ?_⟩
  repeat' (first|omega|(first|apply yaa|(refine yae.intro (id:=12) yeh yei (by decide+kernel) mixed ?_)|skip);simp only [go_sem,sevalprocAttr,t0,t1,bi,↓reduceIte,reduceCtorEq,yeh,yei]|apply yad<;>(intro h_;(try simp only [h_]);revert h_)|apply yac|apply yab|apply gspI|apply And.intro|with_reducible intro h_|trivial|simp only [go_sem,la2];omega)
  refine ⟨yaf.fn rfl hw ?_⟩
  repeat' (first|omega|(first|apply yaa|(refine yae.intro (id:=12) yeh yei (by decide+kernel) mixed ?_)|skip);simp only [go_sem,sevalprocAttr,t0,t1,bi,↓reduceIte,reduceCtorEq,yeh,yei]|apply yad<;>(intro h_;(try simp only [h_]);revert h_)|apply yac|apply yab|apply gspI|apply And.intro|with_reducible intro h_|trivial|simp only [go_sem,la2];omega)
  ·simp [ngP];omega
  refine ⟨_,_,_,?_,?_,⟨i+1,by omega,rfl,rfl,rfl⟩⟩
  ·omega
  ·have e:ngP (p.take (i+1))=ngP (p.take i)++[(-(p.getD i (0,0)).1,(p.getD i (0,0)).2)]:=by
    unfold ngP
    rw [List.take_add_one,List.map_append,List.getElem?_eq_getElem hil]
    simp [hil]
   rw [ymm,←e]
   refine Wk.sub ?_ ?_<;>simp only [go_sem,sevalprocAttr]
 ·obtain rfl:i=p.length:=by omega
  rw [List.take_length]
  have bi:decide ((p.length:Int)<p.length)=false:=by simp
  have hle:(ngP p).length=p.length:=y89 p
  have hle2:(flP p).length=p.length:=by simp [flP,hle]
  by_cases h2:1<p.length
  ·have t0:=ycp (ngP p) 0 (by omega)
   have t1:=ycp (ngP p) 1 (by omega)
   have b2:decide ((1:Int)<p.length)=true:=by simp;omega
   have b3:decide (((ngP p).getD 1 (0,0)).1<((ngP p).getD 0 (0,0)).1)=true:=by
    have:=hasc h2
    unfold ngP
    match p,h2 with
    |x::y::r,_=>simp at this⊢;omega
   have hcr:= @yt9 p (ngP p) (by omega) (by omega)
   rw [hle] at hcr
   repeat' (first|omega|(first|apply yaa|(refine yae.intro (id:=12) yeh yei (by decide+kernel) mixed ?_)|skip);simp only [go_sem,sevalprocAttr,t0,t1,bi,b2,b3,↓reduceIte,reduceCtorEq,yeh,yei]|apply yad<;>(intro h_;(try simp only [h_]);revert h_)|apply yac|apply yab|apply gspI|apply And.intro|with_reducible intro h_|trivial|simp only [go_sem,la2];omega)
   refine ⟨yaf.inline (hcr (fun H' g0 g1 g2 g3=>yxv (by simp only [go_sem,sevalprocAttr,g0,g1,g2,g3,yba])) ?_)⟩
   have hle3:(ngP p).reverse.length=p.length:=by rw [List.length_reverse,hle]
   repeat' (first|omega|(try apply yaa);simp only [go_sem,sevalprocAttr,yf6]|apply yad<;>(intro h_;(try simp only [h_]);revert h_)|apply yac|apply yab|apply gspI|apply And.intro|with_reducible intro h_|trivial|simp only [go_sem,la2];omega)
   all_goals exact LeA.of (by rw [List.take_of_length_le (by rw [yb7,hle3];omega),hle2];rfl)
  ·have b2:decide ((1:Int)<p.length)=false:=by simp;omega
   have e1:flP p=ngP p:=by
    unfold flP
    match p,h2 with
    |[],_=>rfl
    |[x],_=>rfl
    |_::_::_,h=>exact absurd (by simp) h
   rw [e1]
   repeat' (first|omega|(first|apply yaa|(refine yae.intro (id:=12) yeh yei (by decide+kernel) mixed ?_)|skip);simp only [go_sem,sevalprocAttr,bi,b2,↓reduceIte,reduceCtorEq,yeh,yei]|apply yad<;>(intro h_;(try simp only [h_]);revert h_)|apply yac|apply yab|apply gspI|apply And.intro|with_reducible intro h_|trivial|simp only [go_sem,la2];omega)
   all_goals (rw [List.take_of_length_le (by rw [yb7,hle];omega),hle];exact LeA.refl _)
theorem y9b (p:List (Int×Int)) (hp: ∀t∈p,-1048576<=t.1/\t.1<=1048576) (hasc:1<p.length->(p.getD 0 (0,0)).1<(p.getD 1 (0,0)).1) (hl:p.length<=500000):
  Fn Tryz.prog 13 [plA false p] (plA false (flP p)):=by
 have hm:=y15 p hp hasc hl
 refine Fn.intro [.cell 2 29] Tryz.func13 rfl rfl (by decide) (by simp [Tryz.ntmps13]) ?_;rw [Tryz.ntmps13]
 repeat' (first|omega|(try apply yaa);simp only [go_sem,sevalprocAttr,yba]|apply yad<;>(intro h_;(try simp only [h_]);revert h_)|apply yac|apply yab|apply gspI|apply And.intro|with_reducible intro h_|trivial|simp only [go_sem,la2];omega)
 refine ⟨yaf.fn rfl hm ?_⟩
 repeat' (first|omega|(try apply yaa);simp only [go_sem,sevalprocAttr,yf6,yse]|apply yad<;>(intro h_;(try simp only [h_]);revert h_)|apply yac|apply yab|apply gspI|apply And.intro|with_reducible intro h_|trivial|simp only [go_sem,la2];omega)
end Go.Proofs.YtmdjdekgakidhaaGreatDoor
namespace Go.Proofs.YtmdjdekgakidhaaGreatDoor
open Go Go.RowKit
set_option maxRecDepth 100000
set_option maxHeartbeats 4000000
set_option linter.unusedVariables false
set_option linter.unusedSimpArgs false
theorem y16 (e:Int): ∀(p:List (Int×Int)),cfL (ngP p) e=cfL p (-e)
 |[]=>rfl
 |t::p=>by
  have:=y16 e p
  have h:ngP (t::p)=(-t.1,t.2)::ngP p:=rfl
  rw [h]
  simp only [cfL,this]
  by_cases h1:t.1= -e
  ·rw [if_pos (by omega),if_pos h1]
  ·rw [if_neg (by omega),if_neg h1]
theorem y9c (e:Int) (p:List (Int×Int)):cfL p.reverse e=cfL p e:=by
 induction p with
 |nil=>rfl
 |cons t p ih=>rw [List.reverse_cons,yvl,ih];simp only [cfL];omega
theorem y9d {p:List (Int×Int)} {f:Int->Int} (h:yao p f):yao (flP p) (fun e=>f (-e)):=by
 unfold flP
 refine ⟨⟨?_,fun t ht=>?_⟩,fun e=>by rw [y9c,y16,h.cf]⟩
 ·unfold ngP
  rw [List.pairwise_reverse,List.pairwise_map]
  exact h.asc.asc.imp fun hab=>by show-_< -_;omega
 ·obtain ⟨u,hu,rfl⟩:=List.mem_map.1 (List.mem_reverse.1 ht)
  exact h.asc.nz u hu
theorem y49 {p:List (Int×Int)} {f:Int->Int} (h:yao p f) (hs: ∀e,f e≠0-> -1000<=e/\e<=1000):Fn Tryz.prog 13 [plA false p] (plA false (flP p)):=
 y9b p (fun t ht=>by have:=hs _ (h.mem ht).2;omega) (fun h2=>by
  have:=List.pairwise_iff_getElem.1 h.asc.asc 0 1 (by omega) h2 (by omega)
  simpa [List.getD_eq_getElem?_getD,List.getElem?_eq_getElem h2,List.getElem?_eq_getElem (show 0<p.length by omega)] using this) (by have:=h.len hs;omega)
end Go.Proofs.YtmdjdekgakidhaaGreatDoor
set_option linter.unusedSimpArgs false
set_option linter.unusedVariables false
namespace Go.Proofs.YtmdjdekgakidhaaGreatDoor
open Go Go.RowKit
set_option maxRecDepth 100000
set_option maxHeartbeats 4000000
def y17:List (List Nat):=[[17,20,21,22,23],[16,20,21,22,23],[20,21,22,23],[20,21,22,23],[16,17,18,19,21],[16,17,18,19,20],[16,17,18,19],[16,17,18,19],[]]
theorem yua:eq2 Tryz.prog 62=true:=by decide+kernel
theorem yaa8 (p:List (Int×Int)) (hl:p.length<=1000000):Fn Tryz.prog 35 [.ro 2 p.length (.lst (tmC p)), .ro 2 p.length (.lst (tmC p))] (.bool true):=by
 have hlen:=yb7 p
 have b0:((p.length:Int)!=p.length)=false:=by simp
 refine Fn.intro [.tmp 4] Tryz.func35 rfl rfl (by decide) (by simp [Tryz.ntmps35]) ?_;rw [Tryz.ntmps35]
 repeat' (first|omega|(try apply yaa);simp only [go_sem,sevalprocAttr,b0]|apply yad<;>(intro h_;(try simp only [h_]);revert h_)|apply yac|apply yab|apply gspI|apply And.intro|with_reducible intro h_|trivial|simp only [go_sem,la2];omega)
 refine yai.intro (fun n fr H=> ∃k:Nat,k<=p.length/\n=p.length-k/\fr=[(13,I k),(12,I p.length),(1, .ro 2 p.length (.lst (tmC p))),(0, .ro 2 p.length (.lst (tmC p)))]/\H=[]) ?_ ?_
 ·refine ⟨_,_,_,?_,0,by omega,rfl,rfl,rfl⟩
  refine Wk.sub ?_ ?_<;>(simp only [go_sem,sevalprocAttr,yba])
 rintro n fr H ⟨k,hk,rfl,rfl,rfl⟩
 by_cases hkl:k<p.length
 ·have g0:=ycp p k hkl
  have g1:=yen p k hkl
  have b1:((p.getD k (0,0)).1==(p.getD k (0,0)).1)=true:=by simp
  have b2:((p.getD k (0,0)).2==(p.getD k (0,0)).2)=true:=by simp
  repeat' (first|omega|(first|apply yaa|(refine yae.intro (id:=6) y17 [[],[0],[],[],[0,1,2,3],[0,1,2,3,4],[0,1,2,3],[0,1,2,3],[]] (by decide+kernel) mixed ?_)|skip);simp only [go_sem,sevalprocAttr,g0,g1,hlen,b1,b2,yua,↓reduceIte,reduceCtorEq,y17]|apply yad<;>(intro h_;(try simp only [h_]);revert h_)|apply yac|apply yab|apply gspI|apply And.intro|with_reducible intro h_|trivial|simp only [go_sem,la2];omega)
  all_goals (first|exact yua|skip)
  refine ⟨_,_,_,?_,?_,⟨k+1,by omega,rfl,rfl,rfl⟩⟩
  ·omega
  ·refine Wk.sub ?_ ?_<;>(simp only [go_sem,sevalprocAttr,yba])
 ·obtain rfl:k=p.length:=by omega
  repeat' (first|omega|(try apply yaa);simp only [go_sem,sevalprocAttr]|apply yad<;>(intro h_;(try simp only [h_]);revert h_)|apply yac|apply yab|apply gspI|apply And.intro|with_reducible intro h_|trivial|simp only [go_sem,la2];omega)
theorem ynb (p:List (Int×Int)) (hl:p.length<=1000000):Fn Tryz.prog 9 [plA false p,plA false p] (.bool true):=by
 have hS:=yaa8 p hl
 refine Fn.intro [.tmp 4] Tryz.func9 rfl rfl (by decide) (by simp [Tryz.ntmps9]) ?_;rw [Tryz.ntmps9]
 repeat' (first|omega|(try apply yaa);simp only [go_sem,sevalprocAttr,yba]|apply yad<;>(intro h_;(try simp only [h_]);revert h_)|apply yac|apply yab|apply gspI|apply And.intro|with_reducible intro h_|trivial|simp only [go_sem,la2];omega)
 refine ⟨yaf.fn rfl hS ?_⟩
 repeat' (first|omega|(try apply yaa);simp only [go_sem,sevalprocAttr]|apply yad<;>(intro h_;(try simp only [h_]);revert h_)|apply yac|apply yab|apply gspI|apply And.intro|with_reducible intro h_|trivial|simp only [go_sem,la2];omega)
end Go.Proofs.YtmdjdekgakidhaaGreatDoor
