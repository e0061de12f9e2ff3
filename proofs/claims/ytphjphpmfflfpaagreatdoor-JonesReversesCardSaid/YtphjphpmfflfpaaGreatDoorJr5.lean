/- Layer 6: ReverseOne. -/
import Derived.Test.YtphjphpmfflfpaaGreatDoorJr3
import Derived.Test.YtphjphpmfflfpaaGreatDoorMi6
import Derived.Test.YtphjphpmfflfpaaGreatDoorZa
namespace Go.Proofs.YtphjphpmfflfpaaGreatDoor
open Go Go.RowKit
set_option maxRecDepth 100000
set_option maxHeartbeats 8000000
set_option linter.unusedVariables false
set_option linter.unusedSimpArgs false
def Ux:List (List Nat):=[[6,9,10,11,12],[5,9,10,11,12],[9,10,11,12],[9,10,11,12],[5,6,7,8,10],[5,6,7,8,9],[5,6,7,8],[5,6,7,8],[]]
theorem Wk.FB (ids:List Nat) {fr fr':Fr} {H H':Hp} (h1:yem (hsel H ids) fr) (h2:ydp (hsel H ids) H) (dA:frzF (hsel H ids) fr=fr') (hH:c9 (hsel H ids) H=H'):Wk fr H fr' H':=by
 subst dA;subst hH;exact fun _ _ _ _ _ ρ _ hs=>⟨ρ,hs.freeze (fun i o=>BN i o) h1 h2⟩
def kp (l:List Int) (n:Nat) (r:Bool):Nat->List Bool
 |0=>List.replicate n false
 |j+1=>if decide (l.getD j 0 % 2=0)=r then (kp l n r j).set (l.getD j 0/4).toNat true else kp l n r j
theorem Gv (l:List Int) (n:Nat) (r:Bool): ∀j,(kp l n r j).length=n
 |0=>by simp [kp]
 |j+1=>by have:=Gv l n r j;simp only [kp];split<;>simp [this]
theorem J5 (l:List Int) (n:Nat) (r:Bool) {c:Nat} (hc:c<n): ∀j,(kp l n r j).getD c false=true↔ ∃i,i<j/\decide (l.getD i 0 % 2=0)=r/\(l.getD i 0/4).toNat=c
 |0=>by
  constructor
  ·intro h;simp [kp,List.getD_eq_getElem?_getD,hc] at h
  ·rintro ⟨i,h,_⟩;omega
 |j+1=>by
  have ih:=J5 l n r hc j;have hl:=Gv l n r j;simp only [kp];by_cases h1:decide (l.getD j 0 % 2=0)=r
  ·rw [if_pos h1];by_cases h2:(l.getD j 0/4).toNat=c
   ·rw [h2];constructor
    ·intro _;exact ⟨j,by omega,h1,h2⟩
    ·intro _;simp [List.getD_eq_getElem?_getD,hl,hc]
   ·rw [show ((kp l n r j).set (l.getD j 0/4).toNat true).getD c false=(kp l n r j).getD c false from ma h2,ih];constructor
    ·rintro ⟨i,a,b⟩;exact ⟨i,by omega,b⟩
    ·rintro ⟨i,a,b⟩
     have:i≠j:=fun e=>h2 (by rw [←e];exact b.2)
     exact ⟨i,by omega,b⟩
  ·rw [if_neg h1,ih];constructor
   ·rintro ⟨i,a,b⟩;exact ⟨i,by omega,b⟩
   ·rintro ⟨i,a,b⟩
    have:i≠j:=fun e=>h1 (by rw [←e];exact b.1)
    exact ⟨i,by omega,b⟩
abbrev pb (l:List Int) (n:Nat) (r:Bool):List Bool:=kp l n r l.length
theorem LU (n:Nat) (U:List Bool) (hU:U.length=n) (c x:Int) (h0:0<=c) (h1:c<n):Fn Tryz.prog 104 [I c,I x, .rp (.lst [.ro 1 n (.bools U)]) 0] (I (if U.getD c.toNat false=true then 2 else 0)):=by
 obtain ⟨k,rfl⟩: ∃k:Nat,c=k:=⟨c.toNat,by omega⟩;have hk:k<n:=by omega
 rw [Int.toNat_natCast];cases hu:U.getD k false with
 |true=>
  refine Fn.intro [.tmp 5] Tryz.func104 rfl rfl (by decide) (by simp [Tryz.ntmps104]) ?_;rw [Tryz.ntmps104]
  repeat' (first|omega|(try apply ag);simp only [go_sem,sevalprocAttr,hu]|apply ah<;>(intro h_;(try simp only [h_]);revert h_)|apply ai|apply aj|apply ae|apply And.intro|with_reducible intro h_|trivial|simp only [go_sem,ak];omega)
 |false=>
  refine Fn.intro [.tmp 5] Tryz.func104 rfl rfl (by decide) (by simp [Tryz.ntmps104]) ?_;rw [Tryz.ntmps104]
  repeat' (first|omega|(try apply ag);simp only [go_sem,sevalprocAttr,hu]|apply ah<;>(intro h_;(try simp only [h_]);revert h_)|apply ai|apply aj|apply ae|apply And.intro|with_reducible intro h_|trivial|simp only [go_sem,ak];omega)
theorem LS (n:Nat) (U O:List Bool) (hU:U.length=n) (hO:O.length=n) (k:Nat) (h1:k<n):Fn Tryz.prog 105 [I k, .rp (.lst [.ro 1 n (.bools U)]) 0, .rp (.lst [.ro 1 n (.bools O)]) 0] (I (if U.getD k false=O.getD k false then 1 else-1)):=by
 cases hu:U.getD k false<;>cases ho:O.getD k false
 all_goals
  refine Fn.intro [.tmp 4] Tryz.func105 rfl rfl (by decide) (by simp [Tryz.ntmps105]) ?_;rw [Tryz.ntmps105]
  repeat' (first|omega|(first|apply ag|(refine an.intro (id:=1) Ux [[],[0],[],[],[0,1,2,3],[0,1,2,3,4],[0,1,2,3],[0,1,2,3],[]] (by decide+kernel) mixed ?_)|skip);simp only [go_sem,sevalprocAttr,hu,ho,↓reduceIte,reduceCtorEq,Ux]|apply ah<;>(intro h_;(try simp only [h_]);revert h_)|apply ai|apply aj|apply ae|apply And.intro|with_reducible intro h_|trivial|simp only [go_sem,ak];omega)
theorem YL (s m:List Int) (L:Int) (hv:bF s m L=true) (i:Nat) (hi:(i:Int)<(a8 s m).length+L):
  Fn Tryz.prog 43 [dgA s m L,I i] (.tup [dgA (qB s (fun c=>(pb (aI s m i) s.length true).getD c false) (fun c=>(pb (aI s m i) s.length false).getD c false)) (wh m fun c=>(pb (aI s m i) s.length true).getD c false) L,I 0]):=by
 have v1:=cK hv;have qh:=v1.s64;have hV:=l8 s m L;rw [hv] at hV;have hS:=Ly s m L;unfold BK at hS;rw [hv,if_pos rfl] at hS;have cL:=zu s m;have hl:=v1.len;have lU:=Gv (aI s m i) s.length true;have lO:=Gv (aI s m i) s.length false
 have hM:=GY s m L 104 105 [.rp (.lst [.ro 1 s.length (.bools (pb (aI s m i) s.length true))]) 0] [.rp (.lst [.ro 1 s.length (.bools (pb (aI s m i) s.length true))]) 0, .rp (.lst [.ro 1 s.length (.bools (pb (aI s m i) s.length false))]) 0]
  (fun c _=>if (pb (aI s m i) s.length true).getD c.toNat false=true then 2 else 0) (fun c=>if (pb (aI s m i) s.length true).getD c.toNat false=(pb (aI s m i) s.length false).getD c.toNat false then 1 else-1) (by omega) v1.prd.ok rfl rfl
  (fun c x h0 h1 _ _=>LU s.length _ (lU _) c x h0 h1) (fun c hc=>⟨LS s.length _ _ (lU _) (lO _) c hc,by
   have:=v1.sg c hc
   unfold InI
   (try dsimp only)
   rcases this with h|h<;>rw [h]<;>split<;>omega⟩)
 have b1:decide ((i:Int)<0)=false:=by simp
 have b2:decide (((a8 s m).length:Int)+L<=i)=false:=by rw [decide_eq_false_iff_not];omega
 by_cases Cy:i<(a8 s m).length
 ·have b3:decide ((i:Int)<(a8 s m).length)=true:=by simpa using Cy
  have hg:=Sy (a8 s m) i Cy;have Iv:=Uf (s:=s) v1.prd (l:=(a8 s m).getD i []) (by simp [Cy]);have l0:=v1.l0;have vi:=v1.vi;obtain ⟨l,PT⟩: ∃l,aI s m i=l:=⟨_,rfl⟩;rw [PT] at lU lO hM⊢;rw [show (a8 s m).getD i []=l from PT] at hg Iv;clear PT;generalize a8 s m=ls at*;refine Fn.intro [.cell 4 24, .tmp 5] Tryz.func43 rfl rfl (by decide) (by simp [Tryz.ntmps43]) ?_;rw [Tryz.ntmps43]
  repeat' (first|omega|(try apply ag);simp only [go_sem,sevalprocAttr]|apply ah<;>(intro h_;(try simp only [h_]);revert h_)|apply ai|apply aj|apply ae|apply And.intro|with_reducible intro h_|trivial|simp only [go_sem,ak];omega)
  refine ⟨aA.fn rfl hV ?_⟩
  repeat' (first|omega|(try apply ag);simp only [go_sem,sevalprocAttr]|apply ah<;>(intro h_;(try simp only [h_]);revert h_)|apply ai|apply aj|apply ae|apply And.intro|with_reducible intro h_|trivial|simp only [go_sem,ak];omega)
  refine ⟨aA.fn rfl hS ?_⟩
  repeat' (first|omega|(try apply ag);simp only [go_sem,sevalprocAttr,b1,b2,b3,hg]|apply ah<;>(intro h_;(try simp only [h_]);revert h_)|apply ai|apply aj|apply ae|apply And.intro|with_reducible intro h_|trivial|simp only [go_sem,ak];omega)
  refine bV.intro (fun n fr H=> ∃k:Nat,k<=l.length/\n=l.length-k/\fr=[(47,I k),(46,I l.length),(45,roI l),(8, .ptr 5 0),(7, .ptr 3 0),(2, .ptr 0 0),(4, .ptr 1 0)]/\
   H=[(5, .cells 117 (.lst [.sl 1 4 0 s.length])),(4, .cells 4 (.bools (kp l s.length false k))),(3, .cells 117 (.lst [.sl 1 2 0 s.length])),(2, .cells 4 (.bools (kp l s.length true k))),(1, .cells 24 (.lst [.nils, .nils,I 0])),(0, .cells 24 (.lst [roI s,roI m,I L]))]) ?_ ?_
  ·refine ⟨_,_,_,Wk.sub ?_ ?_,0,by omega,rfl,rfl,rfl⟩
   ·simp only [go_sem,sevalprocAttr]
   ·(simp only [go_sem,sevalprocAttr,kp])<;>rfl
  rintro n fr H ⟨k,hk,rfl,rfl,rfl⟩;by_cases bN:k<l.length
  ·have bk:decide ((k:Int)<l.length)=true:=by simpa using bN
   have hx:=Iv.2 (l.getD k 0) (by simp [bN]);have e1:(l.getD k 0).tdiv 4=l.getD k 0/4:=zd hx.1;have e2:(l.getD k 0).tmod 2=l.getD k 0 % 2:=C7 hx.1;have vg:=lU k;have vh:=lO k;have eU:kp l s.length true (k+1)=if decide (l.getD k 0 % 2=0)=true then (kp l s.length true k).set (l.getD k 0/4).toNat true else kp l s.length true k:=rfl
   have eO:kp l s.length false (k+1)=if decide (l.getD k 0 % 2=0)=false then (kp l s.length false k).set (l.getD k 0/4).toNat true else kp l s.length false k:=rfl;obtain ⟨h,hh⟩: ∃h,l.getD k 0=h:=⟨_,rfl⟩;rw [hh] at hx e1 e2 eU eO;generalize kp l s.length true k=U at*;generalize kp l s.length false k=O at*;by_cases hp:h % 2=0
   ·rw [if_pos (decide_eq_true hp)] at eU;rw [if_neg (by simp [hp])] at eO
    repeat' (first|omega|(try apply ag);simp only [go_sem,sevalprocAttr,bk,hh,e1,e2,hp,vg,vh]|apply ah<;>(intro h_;(try simp only [h_]);revert h_)|apply ai|apply aj|apply ae|apply And.intro|with_reducible intro h_|trivial|simp only [go_sem,ak];omega)
    refine ⟨_,_,_,?_,Wk.sub ?_ ?_,k+1,by omega,rfl,rfl,rfl⟩
    ·omega
    ·simp only [go_sem,sevalprocAttr]
    ·(simp only [go_sem,sevalprocAttr,eU,eO])<;>rfl
   ·have aC:h % 2=1:=by omega
    rw [if_neg (by simp [hp])] at eU;rw [if_pos (by simp [hp])] at eO
    repeat' (first|omega|(try apply ag);simp only [go_sem,sevalprocAttr,bk,hh,e1,e2,aC,vg,vh]|apply ah<;>(intro h_;(try simp only [h_]);revert h_)|apply ai|apply aj|apply ae|apply And.intro|with_reducible intro h_|trivial|simp only [go_sem,ak];omega)
    refine ⟨_,_,_,?_,Wk.sub ?_ ?_,k+1,by omega,rfl,rfl,rfl⟩
    ·omega
    ·simp only [go_sem,sevalprocAttr]
    ·(simp only [go_sem,sevalprocAttr,eU,eO])<;>rfl
  ·obtain rfl:k=l.length:=by omega
   have bk:decide (((l.length:Nat):Int)<l.length)=false:=by simp
   have vg:=lU l.length;have vh:=lO l.length;have wU:=List.take_of_length_le (Nat.le_of_eq vg);have wO:=List.take_of_length_le (Nat.le_of_eq vh);simp only [go_sem,sevalprocAttr,bk];refine ag _ _ _ _ ?_;simp only [go_sem,sevalprocAttr,bk]
   refine jt.wk (Wk.FB [2,4] (by simp only [go_sem,sevalprocAttr,wU,wO,vg,vh,Nat.le_refl]) (by simp only [go_sem,sevalprocAttr,wU,wO,vg,vh,Nat.le_refl]) rfl rfl) ?_
   repeat' (first|omega|(try apply ag);simp only [go_sem,sevalprocAttr,bk]|apply ah<;>(intro h_;(try simp only [h_]);revert h_)|apply ai|apply aj|apply ae|apply And.intro|with_reducible intro h_|trivial|simp only [go_sem,ak];omega)
   refine ⟨aA.ln [3,5] rfl (by simp only [go_sem,sevalprocAttr,wU,wO,vg,vh,Nat.le_refl]) (by simp only [go_sem,sevalprocAttr,wU,wO,vg,vh,Nat.le_refl]) (by simp only [go_sem,sevalprocAttr,wU,wO,vg,vh,Nat.le_refl]) (by simp only [go_sem,sevalprocAttr,wU,wO,vg,vh,Nat.le_refl]) rfl rfl rfl (aA.fn rfl hM ?_)⟩
   repeat' (first|omega|(try apply ag);simp only [go_sem,sevalprocAttr]|apply ah<;>(intro h_;(try simp only [h_]);revert h_)|apply ai|apply aj|apply ae|apply And.intro|with_reducible intro h_|trivial|simp only [go_sem,ak];omega)
 ·have b3:decide ((i:Int)<(a8 s m).length)=false:=by rw [decide_eq_false_iff_not];omega
  have e0:aI s m i=[]:=by simp [aI,Nat.le_of_not_lt Cy]
  rw [e0] at hM⊢;have eU:pb [] s.length true=List.replicate s.length false:=rfl;have eO:pb [] s.length false=List.replicate s.length false:=rfl;rw [eU,eO] at hM;rw [eU,eO];have l0:=v1.l0;have vi:=v1.vi;have w:=List.take_of_length_le (Nat.le_of_eq (List.length_replicate (n:=s.length) (a:=false)));generalize a8 s m=ls at*
  refine Fn.intro [.cell 4 24, .tmp 5] Tryz.func43 rfl rfl (by decide) (by simp [Tryz.ntmps43]) ?_;rw [Tryz.ntmps43]
  repeat' (first|omega|(try apply ag);simp only [go_sem,sevalprocAttr]|apply ah<;>(intro h_;(try simp only [h_]);revert h_)|apply ai|apply aj|apply ae|apply And.intro|with_reducible intro h_|trivial|simp only [go_sem,ak];omega)
  refine ⟨aA.fn rfl hV ?_⟩
  repeat' (first|omega|(try apply ag);simp only [go_sem,sevalprocAttr]|apply ah<;>(intro h_;(try simp only [h_]);revert h_)|apply ai|apply aj|apply ae|apply And.intro|with_reducible intro h_|trivial|simp only [go_sem,ak];omega)
  refine ⟨aA.fn rfl hS ?_⟩;simp only [go_sem,sevalprocAttr,b1,b2,b3];refine ag _ _ _ _ ?_;simp only [go_sem,sevalprocAttr,b1,b2,b3];refine ⟨⟨by omega,by omega⟩,ag _ _ _ _ ?_⟩;simp only [go_sem,sevalprocAttr,b1,b2,b3];refine ag _ _ _ _ ?_;simp only [go_sem,sevalprocAttr,b1,b2,b3];refine ⟨⟨by omega,by omega,by omega⟩,ag _ _ _ _ ?_⟩;simp only [go_sem,sevalprocAttr,b1,b2,b3]
  refine ⟨⟨by omega,by omega,by omega⟩,ag _ _ _ _ ?_⟩;simp only [go_sem,sevalprocAttr,b1,b2,b3];refine ag _ _ _ _ ?_;simp only [go_sem,sevalprocAttr,b1,b2,b3];refine jt.wk (Wk.FB [2,4] (by simp only [go_sem,sevalprocAttr,w,List.length_replicate,Nat.le_refl]) (by simp only [go_sem,sevalprocAttr,w,List.length_replicate,Nat.le_refl]) rfl rfl) ?_
  repeat' (first|omega|(try apply ag);simp only [go_sem,sevalprocAttr,b1]|apply ah<;>(intro h_;(try simp only [h_]);revert h_)|apply ai|apply aj|apply ae|apply And.intro|with_reducible intro h_|trivial|simp only [go_sem,ak];omega)
  refine ⟨aA.ln [3,5] rfl (by simp only [go_sem,sevalprocAttr,w,List.length_replicate,Nat.le_refl]) (by simp only [go_sem,sevalprocAttr,w,List.length_replicate,Nat.le_refl]) (by simp only [go_sem,sevalprocAttr,w,List.length_replicate,Nat.le_refl]) (by simp only [go_sem,sevalprocAttr,w,List.length_replicate,Nat.le_refl]) rfl rfl rfl (aA.fn rfl hM ?_)⟩
  repeat' (first|omega|(try apply ag);simp only [go_sem,sevalprocAttr]|apply ah<;>(intro h_;(try simp only [h_]);revert h_)|apply ai|apply aj|apply ae|apply And.intro|with_reducible intro h_|trivial|simp only [go_sem,ak];omega)
  all_goals simp [qB]
end Go.Proofs.YtphjphpmfflfpaaGreatDoor
