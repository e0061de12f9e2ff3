/- Layer 17: permutes; the width of an order; the greedy order. -/
import Derived.Test.YtmdjdekgakidhaaDoorTo1
import Derived.Test.YtmdjdekgakidhaaDoorZo
import Derived.Test.YtmdjdekgakidhaaDoorZn
import Derived.Test.YtmdjdekgakidhaaDoorZe
import Derived.Test.YtmdjdekgakidhaaDoorTt1
namespace Go.Proofs.YtmdjdekgakidhaaDoor
open Go Go.RowKit
set_option maxRecDepth 100000
set_option maxHeartbeats 8000000
set_option linter.unusedVariables false
set_option linter.unusedSimpArgs false
def yjv (o:List Int) (n k:Nat):Bool:=decide (0<=o.getD k 0)&&decide (o.getD k 0<n)&& !((o.take k).contains (o.getD k 0))
def gdN (o:List Int) (n:Nat):Nat->Bool
 |0=>true
 |k+1=>gdN o n k&&yjv o n k
def ydd (o:List Int) (n:Nat):Bool:=(o.length==n)&&gdN o n o.length
def sbR (n:Nat) (l:List Int):List Bool:=(List.range n).map fun (c:Nat)=>l.contains (c:Int)
theorem yjw (n:Nat) (l:List Int):(sbR n l).length=n:=by simp [sbR]
theorem yub (n:Nat):sbR n []=List.replicate n false:=by
 apply List.ext_getElem?
 intro i
 by_cases h:i<n<;>simp [sbR,h]
theorem yjx (n:Nat) (l:List Int) {x:Int} (h0:0<=x) (h1:x<n):(sbR n l).getD x.toNat false=l.contains x:=by
 have:x.toNat<n:=by omega
 simp only [sbR,List.getD_eq_getElem?_getD,List.getElem?_map,List.getElem?_range this,Option.map_some,Option.getD_some]
 rw [show ((x.toNat:Nat):Int)=x by omega]
theorem ynd (n:Nat) (l:List Int) {x:Int} (h0:0<=x) (h1:x<n):(sbR n l).set x.toNat true=sbR n (l++[x]):=by
 apply List.ext_getElem?
 intro i
 rw [List.getElem?_set,yjw]
 by_cases e:x.toNat=i
 ·subst e
  rw [if_pos rfl,if_pos (by omega)]
  simp only [sbR,List.getElem?_map,List.getElem?_range (show x.toNat<n by omega),Option.map_some]
  rw [show ((x.toNat:Nat):Int)=x by omega];simp
 ·rw [if_neg e]
  by_cases hi:i<n
  ·simp only [sbR,List.getElem?_map,List.getElem?_range hi,Option.map_some]
   congr 1
   have:(i:Int)≠x:=fun g=>e (by omega)
   simp [List.contains_eq_any_beq,this]
  ·simp [sbR,hi]
theorem yrj (o:List Int) (n:Nat) (ho:o.length<=100000) (hn:n<=100000):Fn Tryd.prog 20 [roI o,I n] (.bool (ydd o n)):=by
 by_cases hon:o.length=n
 ·have b0:((o.length:Int)!=(n:Int))=false:=by simp [hon]
  have hpB:ydd o n=gdN o n n:=by unfold ydd;rw [hon];simp
  rw [hpB]
  refine Fn.introL [.tmp 4] Tryd.func20 rfl rfl (by decide) (by simp [Tryd.ntmps20]) ?_;rw [Tryd.ntmps20]
  repeat' (first|omega|(try apply yaa);simp only [go_sem,sevalprocAttr,b0,hon,Int.toNat_natCast]|apply yae<;>(intro h_;(try simp only [h_]);revert h_)|apply yad|apply yab|apply gspI|apply And.intro|with_reducible intro h_|trivial|simp only [go_sem,la2];omega)
  refine yak.intro (fun n' fr H=> ∃k:Nat,k<=n/\gdN o n k=true/\n'=n-k/\fr=[(16,I k),(15,I n),(14,roI o),(5, .sl 1 0 0 n),(0,roI o),(1,I n)]/\H=[(0, .cells 4 (.bools (sbR n (o.take k))))]) ?_ ?_
  ·refine ⟨_,_,_,?_,0,by omega,rfl,rfl,rfl,rfl⟩
   refine Wk.sub ?_ ?_<;>(simp only [go_sem,sevalprocAttr,hon,yub,List.take_zero])
  rintro n' fr H ⟨k,hk,hgd,rfl,rfl,rfl⟩
  have hsl:=yjw n (o.take k)
  by_cases hkn:k<n
  ·have bk:decide ((k:Int)<n)=true:=by simp;omega
   by_cases h1:0<=o.getD k 0/\o.getD k 0<n
   ·have b1:decide (o.getD k 0<0)=false:=by rw [decide_eq_false_iff_not];omega
    have b2:decide ((n:Int)<=o.getD k 0)=false:=by rw [decide_eq_false_iff_not];omega
    have hg:=yjx n (o.take k) h1.1 h1.2
    have hst:=ynd n (o.take k) h1.1 h1.2
    rw [←ydx (show k<o.length by omega)] at hst
    cases hc:(o.take k).contains (o.getD k 0) with
    |true=>
     rw [hc] at hg
     have hf:gdN o n n=false:=by
      have key: ∀d,gdN o n (k+1+d)=false:=fun d=>by
       induction d with
       |zero=>simp only [gdN,yjv,hc,Bool.not_true,Bool.and_false,Nat.add_zero]
       |succ d ih=>rw [←Nat.add_assoc];simp only [gdN,ih,Bool.false_and]
      have:=key (n-k-1)
      rwa [show k+1+(n-k-1)=n by omega] at this
     rw [hf]
     repeat' (first|omega|(try apply yaa);simp only [go_sem,sevalprocAttr,bk,b1,b2,hg,hsl,hon]|apply yae<;>(intro h_;(try simp only [h_]);revert h_)|apply yad|apply yab|apply gspI|apply And.intro|with_reducible intro h_|trivial|simp only [go_sem,la2];omega)
     all_goals exact LeA.refl _
    |false=>
     rw [hc] at hg
     have hk1:gdN o n (k+1)=true:=by simp only [gdN,yjv,hgd,hc];rw [decide_eq_true h1.1,decide_eq_true h1.2];rfl
     repeat' (first|omega|(try apply yaa);simp only [go_sem,sevalprocAttr,bk,b1,b2,hg,hsl,hon,hst]|apply yae<;>(intro h_;(try simp only [h_]);revert h_)|apply yad|apply yab|apply gspI|apply And.intro|with_reducible intro h_|trivial|simp only [go_sem,la2];omega)
     refine ⟨_,_,_,?_,?_,k+1,by omega,hk1,rfl,rfl,rfl⟩
     ·omega
     ·refine Wk.sub ?_ ?_<;>(simp only [go_sem,sevalprocAttr,hon,hst])
   ·have hf:gdN o n n=false:=by
     have hgk:yjv o n k=false:=by
      unfold yjv
      by_cases h2:0<=o.getD k 0
      ·rw [show decide (o.getD k 0<n)=false by rw [decide_eq_false_iff_not];exact fun h=>h1 ⟨h2,h⟩];simp
      ·rw [show decide (0<=o.getD k 0)=false by rw [decide_eq_false_iff_not];exact h2];simp
     have key: ∀d,gdN o n (k+1+d)=false:=fun d=>by
      induction d with
      |zero=>simp only [gdN,hgk,Bool.and_false,Nat.add_zero]
      |succ d ih=>rw [←Nat.add_assoc];simp only [gdN,ih,Bool.false_and]
     have:=key (n-k-1)
     rwa [show k+1+(n-k-1)=n by omega] at this
    rw [hf]
    by_cases h2:o.getD k 0<0
    ·have b1:decide (o.getD k 0<0)=true:=by simpa using h2
     repeat' (first|omega|(try apply yaa);simp only [go_sem,sevalprocAttr,bk,b1,hsl,hon]|apply yae<;>(intro h_;(try simp only [h_]);revert h_)|apply yad|apply yab|apply gspI|apply And.intro|with_reducible intro h_|trivial|simp only [go_sem,la2];omega)
     all_goals exact LeA.refl _
    ·have b1:decide (o.getD k 0<0)=false:=by simpa using h2
     have b2:decide ((n:Int)<=o.getD k 0)=true:=by rw [decide_eq_true_eq];omega
     repeat' (first|omega|(try apply yaa);simp only [go_sem,sevalprocAttr,bk,b1,b2,hsl,hon]|apply yae<;>(intro h_;(try simp only [h_]);revert h_)|apply yad|apply yab|apply gspI|apply And.intro|with_reducible intro h_|trivial|simp only [go_sem,la2];omega)
     all_goals exact LeA.refl _
  ·obtain rfl:k=n:=by omega
   have bk:decide ((k:Int)<k)=false:=by simp
   rw [hgd]
   repeat' (first|omega|(try apply yaa);simp only [go_sem,sevalprocAttr,bk,hon]|apply yae<;>(intro h_;(try simp only [h_]);revert h_)|apply yad|apply yab|apply gspI|apply And.intro|with_reducible intro h_|trivial|simp only [go_sem,la2];omega)
   all_goals exact LeA.refl _
 ·have b0:((o.length:Int)!=(n:Int))=true:=by simp;omega
  have hpB:ydd o n=false:=by unfold ydd;rw [show (o.length==n)=false by simpa using hon];rfl
  rw [hpB]
  refine Fn.introL [.tmp 4] Tryd.func20 rfl rfl (by decide) (by simp [Tryd.ntmps20]) ?_;rw [Tryd.ntmps20]
  repeat' (first|omega|(try apply yaa);simp only [go_sem,sevalprocAttr,b0]|apply yae<;>(intro h_;(try simp only [h_]);revert h_)|apply yad|apply yab|apply gspI|apply And.intro|with_reducible intro h_|trivial|simp only [go_sem,la2];omega)
  all_goals exact LeA.refl _
theorem ys5 {o:List Int} {n:Nat}: ∀k,k<=o.length->gdN o n k=true->PrmL n (o.take k)
 |0,_,_=>⟨by simp,by simp⟩
 |k+1,hk,h=>by
  simp only [gdN,yjv,Bool.and_eq_true,decide_eq_true_eq,Bool.not_eq_true'] at h
  obtain ⟨h1,⟨h2,h3⟩,h4⟩:=h
  have ih:=ys5 k (by omega) h1
  rw [ydx (by omega)]
  refine ⟨?_,fun x hx=>?_⟩
  ·rw [List.nodup_append]
   refine ⟨ih.nd,by simp,fun x hx y hy e=>?_⟩
   simp only [List.mem_cons,List.not_mem_nil,or_false] at hy
   subst hy;subst e
   simp at h4
   exact h4 (by simpa using hx)
  ·rcases List.mem_append.1 hx with hx|hx
   ·exact ih.rg x hx
   ·simp only [List.mem_cons,List.not_mem_nil,or_false] at hx
    subst hx;exact ⟨h2,h3⟩
theorem ygl {o:List Int} {n:Nat} (h:ydd o n=true):PrmL n o/\o.length=n:=by
 simp only [ydd,Bool.and_eq_true,beq_iff_eq] at h
 have:=ys5 o.length (Nat.le_refl _) h.2
 rw [List.take_length] at this
 exact ⟨this,h.1⟩
theorem win4 {m:List Int} {c j:Nat} (hj:j<4):((m.drop (4*c)).take 4).getD j 0=m.getD (4*c+j) 0:=by
 simp only [List.getD_eq_getElem?_getD,List.getElem?_take,hj,if_true,List.getElem?_drop]
theorem yqv {m:List Int} {c n:Nat} (hm:m.length=4*n) (hc:c<n):((m.drop (4*c)).take 4).length=4:=by
 rw [List.length_take,List.length_drop];omega
def widA (s m:List Int) (L:Int) (o:List Int):AV:=if ybb s m L=true then (if ydd o s.length=true then .tup [I (wdN m o o.length),I 0] else .tup [I 0,I 2]) else .tup [I 0,I 1]
theorem yqw (s m:List Int) (L:Int) (o:List Int) (hs:s.length<=1000) (ho:o.length<=100000):Fn Tryd.prog 11 [dgA s m L,roI o] (widA s m L o):=by
 have hV:=yph s m L
 have hP:=yrj o s.length ho (by omega)
 unfold widA
 cases hv:ybb s m L with
 |false=>
  rw [hv] at hV
  rw [if_neg (by simp)]
  refine Fn.introL [.tmp 4, .tmp 5] Tryd.func11 rfl rfl (by decide) (by simp [Tryd.ntmps11]) ?_;rw [Tryd.ntmps11]
  repeat' (first|omega|(try apply yaa);simp only [go_sem,sevalprocAttr]|apply yae<;>(intro h_;(try simp only [h_]);revert h_)|apply yad|apply yab|apply gspI|apply And.intro|with_reducible intro h_|trivial|simp only [go_sem,la2];omega)
  all_goals refine ⟨yaf.fn rfl hV ?_⟩
  all_goals (repeat' (first|omega|(try apply yaa);simp only [go_sem,sevalprocAttr]|apply yae<;>(intro h_;(try simp only [h_]);revert h_)|apply yad|apply yab|apply gspI|apply And.intro|with_reducible intro h_|trivial|simp only [go_sem,la2];omega))
  all_goals exact LeA.refl _
 |true=>
  rw [hv] at hV
  rw [if_pos rfl]
  cases hpb:ydd o s.length with
  |false=>
   rw [hpb] at hP
   rw [if_neg (by simp)]
   refine Fn.introL [.tmp 4, .tmp 5] Tryd.func11 rfl rfl (by decide) (by simp [Tryd.ntmps11]) ?_;rw [Tryd.ntmps11]
   repeat' (first|omega|(try apply yaa);simp only [go_sem,sevalprocAttr]|apply yae<;>(intro h_;(try simp only [h_]);revert h_)|apply yad|apply yab|apply gspI|apply And.intro|with_reducible intro h_|trivial|simp only [go_sem,la2];omega)
   all_goals refine ⟨yaf.fn rfl hV ?_⟩
   all_goals (repeat' (first|omega|(try apply yaa);simp only [go_sem,sevalprocAttr]|apply yae<;>(intro h_;(try simp only [h_]);revert h_)|apply yad|apply yab|apply gspI|apply And.intro|with_reducible intro h_|trivial|simp only [go_sem,la2];omega))
   all_goals refine ⟨yaf.fn rfl hP ?_⟩
   all_goals (repeat' (first|omega|(try apply yaa);simp only [go_sem,sevalprocAttr]|apply yae<;>(intro h_;(try simp only [h_]);revert h_)|apply yad|apply yab|apply gspI|apply And.intro|with_reducible intro h_|trivial|simp only [go_sem,la2];omega))
   all_goals exact LeA.refl _
  |true=>
   rw [hpb] at hP
   rw [if_pos rfl]
   obtain ⟨hprm,hol⟩:=ygl hpb
   have hp:=(yin hv).prd
   have hml:=hp.ok.1
   refine Fn.introL [.tmp 4, .tmp 5] Tryd.func11 rfl rfl (by decide) (by simp [Tryd.ntmps11]) ?_;rw [Tryd.ntmps11]
   repeat' (first|omega|(try apply yaa);simp only [go_sem,sevalprocAttr]|apply yae<;>(intro h_;(try simp only [h_]);revert h_)|apply yad|apply yab|apply gspI|apply And.intro|with_reducible intro h_|trivial|simp only [go_sem,la2];omega)
   all_goals refine ⟨yaf.fn rfl hV ?_⟩
   all_goals (repeat' (first|omega|(try apply yaa);simp only [go_sem,sevalprocAttr]|apply yae<;>(intro h_;(try simp only [h_]);revert h_)|apply yad|apply yab|apply gspI|apply And.intro|with_reducible intro h_|trivial|simp only [go_sem,la2];omega))
   all_goals refine ⟨yaf.fn rfl hP ?_⟩
   all_goals (repeat' (first|omega|(try apply yaa);simp only [go_sem,sevalprocAttr,Int.toNat_natCast]|apply yae<;>(intro h_;(try simp only [h_]);revert h_)|apply yad|apply yab|apply gspI|apply And.intro|with_reducible intro h_|trivial|simp only [go_sem,la2];omega))
   refine yak.intro (fun n' fr H=> ∃k:Nat,k<=s.length/\n'=s.length-k/\fr=[(28,I k),(27,I s.length),(26,roI o),(8,I (wdN m o k)),(7,I (ctN m o k)),(6, .sl 1 1 0 s.length),(2, .ptr 0 0)]/\
    H=[(1, .cells 4 (.bools (sbR s.length (o.take k)))),(0, .cells 25 (.lst [roI s,roI m,I L]))]) ?_ ?_
   ·refine ⟨_,_,_,Wk.sub ?_ ?_,0,by omega,rfl,rfl,rfl⟩
    ·simp only [go_sem,sevalprocAttr,hol,wdN,ctN]
    ·simp only [go_sem,sevalprocAttr,yub,List.take_zero]
   rintro n' fr H ⟨k,hk,rfl,rfl,rfl⟩
   have hsl:=yjw s.length (o.take k)
   have hcr:=yms m o k
   by_cases hkn:k<s.length
   ·have bk:decide ((k:Int)<s.length)=true:=by simp;omega
    have hmem:o.getD k 0∈o:=by
     rw [List.getD_eq_getElem?_getD,List.getElem?_eq_getElem (show k<o.length by omega)]
     exact List.getElem_mem _
    have hx:=hprm.rg _ hmem
    have hst:=ynd s.length (o.take k) hx.1 hx.2
    rw [←ydx (show k<o.length by omega)] at hst
    obtain ⟨c,hc⟩: ∃c:Nat,o.getD k 0=c:=⟨(o.getD k 0).toNat,by omega⟩
    have hct1:ctN m o (k+1)=ctN m o k+ctS m (o.take k) c 4:=by simp only [ctN,hc]
    rw [hc] at hst hx
    rw [Int.toNat_natCast] at hst
    have e4:(4*(c:Int)).toNat=4*c:=by omega
    have e5:(4*(c:Int)+4).toNat=4*c+4:=by omega
    have e6:4*c+4-4*c=4:=by omega
    have hw4:=yqv (c:=c) hml (by omega)
    repeat' (first|omega|(try apply yaa);simp only [go_sem,sevalprocAttr,bk,hc,hol,e4,e5,e6,Int.toNat_natCast]|apply yae<;>(intro h_;(try simp only [h_]);revert h_)|apply yad|apply yab|apply gspI|apply And.intro|with_reducible intro h_|trivial|simp only [go_sem,la2];omega)
    refine yak.intro (fun n' fr H=> ∃j:Nat,j<=4/\n'=4-j/\fr=[(41,I j),(40,I 4),(39, .ro 1 4 (.ints ((m.drop (4*c)).take 4))),(10,I c),(28,I k),(27,I s.length),(26,roI o),(8,I (wdN m o k)),(7,I (ctN m o k+ctS m (o.take k) c j)),(6, .sl 1 1 0 s.length),(2, .ptr 0 0)]/\
     H=[(1, .cells 4 (.bools (sbR s.length (o.take k)))),(0, .cells 25 (.lst [roI s,roI m,I L]))]) ?_ ?_
    ·refine ⟨_,_,_,Wk.sub ?_ ?_,0,by omega,rfl,rfl,rfl⟩
     ·(simp only [go_sem,sevalprocAttr,hol,ctS,Int.add_zero])<;>rfl
     ·simp only [go_sem,sevalprocAttr]
    rintro n' fr H ⟨j,hj,rfl,rfl,rfl⟩
    have hsr:=yi9 m (o.take k) c j
    by_cases hj4:j<4
    ·have bj:decide ((j:Int)<4)=true:=by simp;omega
     have hwj:=win4 (m:=m) (c:=c) hj4
     have hy:=hp.ok.2 (4*c+j) (by omega)
     have e7:(4*(c:Int)+(j:Int)).toNat=4*c+j:=by omega
     obtain ⟨y,hyd⟩: ∃y:Nat,m.getD (4*c+j) 0=y:=⟨(m.getD (4*c+j) 0).toNat,by omega⟩
     have hcs:ctS m (o.take k) c (j+1)=ctS m (o.take k) c j+if (y:Int)/4=c then 0 else if (y:Int)/4∈o.take k then-1 else 1:=by simp only [ctS,e7,hyd]
     have htd:(y:Int).tdiv 4=(y:Int)/4:=Int.tdiv_eq_ediv_of_nonneg (by omega)
     have hg:=yjx s.length (o.take k) (x:=(y:Int)/4) (by omega) (by omega)
     have hq:((y:Int)/4).toNat=y/4:=by omega
     rw [hq] at hg
     rw [hyd] at hwj
     by_cases h1:(y:Int)/4=c
     ·have b1:((y:Int)/4==(c:Int))=true:=by simpa using h1
      rw [if_pos h1,Int.add_zero] at hcs
      repeat' (first|omega|(try apply yaa);simp only [go_sem,sevalprocAttr,bj,hwj,hw4,htd,b1,hol]|apply yae<;>(intro h_;(try simp only [h_]);revert h_)|apply yad|apply yab|apply gspI|apply And.intro|with_reducible intro h_|trivial|simp only [go_sem,la2];omega)
      refine ⟨_,_,_,?_,Wk.sub ?_ ?_,j+1,by omega,rfl,rfl,rfl⟩
      ·omega
      ·simp only [go_sem,sevalprocAttr,hol,hcs]
      ·simp only [go_sem,sevalprocAttr]
     ·have b1:((y:Int)/4==(c:Int))=false:=by simpa using h1
      rw [if_neg h1] at hcs
      by_cases h2:(y:Int)/4∈o.take k
      ·rw [if_pos h2] at hcs
       have b2:(o.take k).contains ((y:Int)/4)=true:=by simpa using h2
       rw [b2] at hg
       repeat' (first|omega|(try apply yaa);simp only [go_sem,sevalprocAttr,bj,hwj,hw4,htd,b1,hg,hsl,hq,hol]|apply yae<;>(intro h_;(try simp only [h_]);revert h_)|apply yad|apply yab|apply gspI|apply And.intro|with_reducible intro h_|trivial|simp only [go_sem,la2];omega)
       refine ⟨_,_,_,?_,Wk.sub ?_ ?_,j+1,by omega,rfl,rfl,rfl⟩
       ·omega
       ·simp only [go_sem,sevalprocAttr,hol,hcs]
        omega
       ·simp only [go_sem,sevalprocAttr]
      ·rw [if_neg h2] at hcs
       have b2:(o.take k).contains ((y:Int)/4)=false:=by simpa using h2
       rw [b2] at hg
       repeat' (first|omega|(try apply yaa);simp only [go_sem,sevalprocAttr,bj,hwj,hw4,htd,b1,hg,hsl,hq,hol]|apply yae<;>(intro h_;(try simp only [h_]);revert h_)|apply yad|apply yab|apply gspI|apply And.intro|with_reducible intro h_|trivial|simp only [go_sem,la2];omega)
       refine ⟨_,_,_,?_,Wk.sub ?_ ?_,j+1,by omega,rfl,rfl,rfl⟩
       ·omega
       ·simp only [go_sem,sevalprocAttr,hol,hcs]
        omega
       ·simp only [go_sem,sevalprocAttr]
    ·obtain rfl:j=4:=by omega
     have bj:decide (((4:Nat):Int)<4)=false:=by decide
     rw [←hct1]
     have hwd:wdN m o (k+1)=max (wdN m o k) (ctN m o (k+1)):=rfl
     repeat' (first|omega|(try apply yaa);simp only [go_sem,sevalprocAttr,bj,hsl,hst,hol,Int.toNat_natCast]|apply yae<;>(intro h_;(try simp only [h_]);revert h_)|apply yad|apply yab|apply gspI|apply And.intro|with_reducible intro h_|trivial|simp only [go_sem,la2];omega)
     refine ⟨_,_,_,?_,Wk.sub ?_ ?_,k+1,by omega,rfl,rfl,rfl⟩
     ·omega
     ·simp only [go_sem,sevalprocAttr,hol]
      rw [hwd];split<;>omega
     ·simp only [go_sem,sevalprocAttr,hst]
   ·obtain rfl:k=s.length:=by omega
    have bk:decide ((s.length:Int)<s.length)=false:=by simp
    repeat' (first|omega|(try apply yaa);simp only [go_sem,sevalprocAttr,bk,hol]|apply yae<;>(intro h_;(try simp only [h_]);revert h_)|apply yad|apply yab|apply gspI|apply And.intro|with_reducible intro h_|trivial|simp only [go_sem,la2];omega)
    all_goals exact LeA.refl _
def msN (m out:List Int) (c:Nat):Int:=if bsN m out c<0 then-1 else (eN m out (bsN m out c).toNat 4:Int)
theorem yw4 (m:List Int) (n k:Nat) (hk:k<n):0<=bsN m (orN m n k) n:=by
 have:=(yr0 m n (k+1) (by omega)).rg (bsN m (orN m n k) n) (by simp [orN])
 exact this.1
theorem ylc (s m:List Int) (L:Int) (hs:s.length<=1000):Fn Tryd.prog 6 [dgA s m L] (if ybb s m L=true then roI (orN m s.length s.length) else .nils):=by
 have hV:=yph s m L
 cases hv:ybb s m L with
 |false=>
  rw [hv] at hV
  rw [if_neg (by simp)]
  refine Fn.introL [.tmp 2] Tryd.func6 rfl rfl (by decide) (by simp [Tryd.ntmps6]) ?_;rw [Tryd.ntmps6]
  repeat' (first|omega|(try apply yaa);simp only [go_sem,sevalprocAttr]|apply yae<;>(intro h_;(try simp only [h_]);revert h_)|apply yad|apply yab|apply gspI|apply And.intro|with_reducible intro h_|trivial|simp only [go_sem,la2];omega)
  all_goals refine ⟨yaf.fn rfl hV ?_⟩
  all_goals (repeat' (first|omega|(try apply yaa);simp only [go_sem,sevalprocAttr]|apply yae<;>(intro h_;(try simp only [h_]);revert h_)|apply yad|apply yab|apply gspI|apply And.intro|with_reducible intro h_|trivial|simp only [go_sem,la2];omega))
  all_goals exact LeA.refl _
 |true=>
  rw [hv] at hV
  rw [if_pos rfl]
  have hp:=(yin hv).prd
  have hml:=hp.ok.1
  refine Fn.introL [.tmp 2] Tryd.func6 rfl rfl (by decide) (by simp [Tryd.ntmps6]) ?_;rw [Tryd.ntmps6]
  repeat' (first|omega|(try apply yaa);simp only [go_sem,sevalprocAttr]|apply yae<;>(intro h_;(try simp only [h_]);revert h_)|apply yad|apply yab|apply gspI|apply And.intro|with_reducible intro h_|trivial|simp only [go_sem,la2];omega)
  all_goals refine ⟨yaf.fn rfl hV ?_⟩
  all_goals (repeat' (first|omega|(try apply yaa);simp only [go_sem,sevalprocAttr,Int.toNat_natCast]|apply yae<;>(intro h_;(try simp only [h_]);revert h_)|apply yad|apply yab|apply gspI|apply And.intro|with_reducible intro h_|trivial|simp only [go_sem,la2];omega))
  refine yak.intro (fun n' fr H=> ∃k:Nat,k<=s.length/\n'=s.length-k/\fr=[(25,I k),(24,I s.length),(4, .sl 1 2 0 k),(3, .sl 1 1 0 s.length),(1, .ptr 0 0)]/\
   H=[(2, .cells 3 (.ints (orN m s.length k))),(1, .cells 4 (.bools (sbR s.length (orN m s.length k)))),(0, .cells 25 (.lst [roI s,roI m,I L]))]) ?_ ?_
  ·refine ⟨_,_,_,Wk.sub ?_ ?_,0,by omega,rfl,rfl,rfl⟩
   ·simp only [go_sem,sevalprocAttr]
   ·simp only [go_sem,sevalprocAttr,yub,orN,List.replicate_zero]
  rintro n' fr H ⟨k,hk,rfl,rfl,rfl⟩
  have hol:=ymp m s.length k
  obtain ⟨o,hod⟩: ∃o,orN m s.length k=o:=⟨_,rfl⟩
  have hsl:=yjw s.length o
  by_cases hkn:k<s.length
  ·have bk:decide ((k:Int)<s.length)=true:=by simp;omega
   have hb0:=yw4 m s.length k hkn
   have hbr:=ymq m (orN m s.length k) s.length
   have ho1:orN m s.length (k+1)=o++[bsN m o s.length]:=by simp only [orN,hod]
   rw [hod] at hb0 hbr hol⊢
   repeat' (first|omega|(try apply yaa);simp only [go_sem,sevalprocAttr,bk]|apply yae<;>(intro h_;(try simp only [h_]);revert h_)|apply yad|apply yab|apply gspI|apply And.intro|with_reducible intro h_|trivial|simp only [go_sem,la2];omega)
   refine yak.intro (fun n' fr H=> ∃c:Nat,c<=s.length/\n'=s.length-c/\fr=[(30,I c),(29,I s.length),(5,I (bsN m o c)),(6,I (msN m o c)),(25,I k),(24,I s.length),(4, .sl 1 2 0 k),(3, .sl 1 1 0 s.length),(1, .ptr 0 0)]/\
    H=[(2, .cells 3 (.ints o)),(1, .cells 4 (.bools (sbR s.length o))),(0, .cells 25 (.lst [roI s,roI m,I L]))]) ?_ ?_
   ·refine ⟨_,_,_,Wk.sub ?_ ?_,0,by omega,rfl,rfl,rfl⟩
    ·(simp only [go_sem,sevalprocAttr,bsN,msN])<;>rfl
    ·simp only [go_sem,sevalprocAttr]
   rintro n' fr H ⟨c,hc,rfl,rfl,rfl⟩
   by_cases hcn:c<s.length
   ·have bc:decide ((c:Int)<s.length)=true:=by simp;omega
    have hg:=yjx s.length o (x:=(c:Int)) (by omega) (by omega)
    rw [Int.toNat_natCast] at hg
    by_cases h1:(c:Int)∈o
    ·have b2:o.contains (c:Int)=true:=by simpa using h1
     have hbs:bsN m o (c+1)=bsN m o c:=by simp only [bsN];rw [if_pos h1]
     have hms:msN m o (c+1)=msN m o c:=by unfold msN;rw [hbs]
     rw [b2] at hg
     repeat' (first|omega|(try apply yaa);simp only [go_sem,sevalprocAttr,bc,hg,hsl,Int.toNat_natCast]|apply yae<;>(intro h_;(try simp only [h_]);revert h_)|apply yad|apply yab|apply gspI|apply And.intro|with_reducible intro h_|trivial|simp only [go_sem,la2];omega)
     refine ⟨_,_,_,?_,Wk.sub ?_ ?_,c+1,by omega,rfl,rfl,rfl⟩
     ·omega
     ·simp only [go_sem,sevalprocAttr,hbs,hms]
     ·simp only [go_sem,sevalprocAttr]
    ·have b2:o.contains (c:Int)=false:=by simpa using h1
     have hbs:bsN m o (c+1)=if bsN m o c<0\/eN m o (bsN m o c).toNat 4<eN m o c 4 then (c:Int) else bsN m o c:=by simp only [bsN];rw [if_neg h1]
     rw [b2] at hg
     have e4:(4*(c:Int)).toNat=4*c:=by omega
     have e5:(4*(c:Int)+4).toNat=4*c+4:=by omega
     have e6:4*c+4-4*c=4:=by omega
     have hw4:=yqv (c:=c) hml (by omega)
     repeat' (first|omega|(try apply yaa);simp only [go_sem,sevalprocAttr,bc,hg,hsl,e4,e5,e6,Int.toNat_natCast]|apply yae<;>(intro h_;(try simp only [h_]);revert h_)|apply yad|apply yab|apply gspI|apply And.intro|with_reducible intro h_|trivial|simp only [go_sem,la2];omega)
     refine yak.intro (fun n' fr H=> ∃j:Nat,j<=4/\n'=4-j/\fr=[(46,I j),(45,I 4),(44, .ro 1 4 (.ints ((m.drop (4*c)).take 4))),(8,I (eN m o c j)),(7,I c),(30,I c),(29,I s.length),(5,I (bsN m o c)),(6,I (msN m o c)),(25,I k),(24,I s.length),(4, .sl 1 2 0 k),(3, .sl 1 1 0 s.length),(1, .ptr 0 0)]/\
      H=[(2, .cells 3 (.ints o)),(1, .cells 4 (.bools (sbR s.length o))),(0, .cells 25 (.lst [roI s,roI m,I L]))]) ?_ ?_
     ·refine ⟨_,_,_,Wk.sub ?_ ?_,0,by omega,rfl,rfl,rfl⟩
      ·(simp only [go_sem,sevalprocAttr,eN])<;>rfl
      ·simp only [go_sem,sevalprocAttr]
     rintro n' fr H ⟨j,hj,rfl,rfl,rfl⟩
     have her:=y0b m o c j
     by_cases hj4:j<4
     ·have bj:decide ((j:Int)<4)=true:=by simp;omega
      have hwj:=win4 (m:=m) (c:=c) hj4
      have hy:=hp.ok.2 (4*c+j) (by omega)
      obtain ⟨y,hyd⟩: ∃y:Nat,m.getD (4*c+j) 0=y:=⟨(m.getD (4*c+j) 0).toNat,by omega⟩
      have hcs:eN m o c (j+1)=eN m o c j+if (y:Int)/4∈o then 1 else 0:=by simp only [eN,hyd]
      have htd:(y:Int).tdiv 4=(y:Int)/4:=Int.tdiv_eq_ediv_of_nonneg (by omega)
      have hg2:=yjx s.length o (x:=(y:Int)/4) (by omega) (by omega)
      have hq:((y:Int)/4).toNat=y/4:=by omega
      rw [hq] at hg2
      rw [hyd] at hwj
      by_cases h2:(y:Int)/4∈o
      ·rw [if_pos h2] at hcs
       have b3:o.contains ((y:Int)/4)=true:=by simpa using h2
       rw [b3] at hg2
       repeat' (first|omega|(try apply yaa);simp only [go_sem,sevalprocAttr,bj,hwj,hw4,htd,hg2,hsl,hq]|apply yae<;>(intro h_;(try simp only [h_]);revert h_)|apply yad|apply yab|apply gspI|apply And.intro|with_reducible intro h_|trivial|simp only [go_sem,la2];omega)
       refine ⟨_,_,_,?_,Wk.sub ?_ ?_,j+1,by omega,rfl,rfl,rfl⟩
       ·omega
       ·(simp only [go_sem,sevalprocAttr,hcs])<;>rfl
       ·simp only [go_sem,sevalprocAttr]
      ·rw [if_neg h2,Nat.add_zero] at hcs
       have b3:o.contains ((y:Int)/4)=false:=by simpa using h2
       rw [b3] at hg2
       repeat' (first|omega|(try apply yaa);simp only [go_sem,sevalprocAttr,bj,hwj,hw4,htd,hg2,hsl,hq]|apply yae<;>(intro h_;(try simp only [h_]);revert h_)|apply yad|apply yab|apply gspI|apply And.intro|with_reducible intro h_|trivial|simp only [go_sem,la2];omega)
       refine ⟨_,_,_,?_,Wk.sub ?_ ?_,j+1,by omega,rfl,rfl,rfl⟩
       ·omega
       ·simp only [go_sem,sevalprocAttr,hcs]
       ·simp only [go_sem,sevalprocAttr]
     ·obtain rfl:j=4:=by omega
      have bj:decide (((4:Nat):Int)<4)=false:=by decide
      by_cases h3:bsN m o c<0\/eN m o (bsN m o c).toNat 4<eN m o c 4
      ·rw [if_pos h3] at hbs
       have b4:decide (msN m o c<(eN m o c 4:Int))=true:=by
        rw [decide_eq_true_eq];unfold msN
        split
        ·omega
        ·rcases h3 with h3|h3<;>omega
       have hms:msN m o (c+1)=eN m o c 4:=by
        unfold msN;rw [hbs,if_neg (by omega),Int.toNat_natCast]
       repeat' (first|omega|(try apply yaa);simp only [go_sem,sevalprocAttr,bj,b4]|apply yae<;>(intro h_;(try simp only [h_]);revert h_)|apply yad|apply yab|apply gspI|apply And.intro|with_reducible intro h_|trivial|simp only [go_sem,la2];omega)
       refine ⟨_,_,_,?_,Wk.sub ?_ ?_,c+1,by omega,rfl,rfl,rfl⟩
       ·omega
       ·simp only [go_sem,sevalprocAttr,hbs,hms]
       ·simp only [go_sem,sevalprocAttr]
      ·rw [if_neg h3] at hbs
       have b4:decide (msN m o c<(eN m o c 4:Int))=false:=by
        rw [decide_eq_false_iff_not];unfold msN
        split
        ·exact absurd (.inl (by assumption)) h3
        ·omega
       have hms:msN m o (c+1)=msN m o c:=by unfold msN;rw [hbs]
       repeat' (first|omega|(try apply yaa);simp only [go_sem,sevalprocAttr,bj,b4]|apply yae<;>(intro h_;(try simp only [h_]);revert h_)|apply yad|apply yab|apply gspI|apply And.intro|with_reducible intro h_|trivial|simp only [go_sem,la2];omega)
       refine ⟨_,_,_,?_,Wk.sub ?_ ?_,c+1,by omega,rfl,rfl,rfl⟩
       ·omega
       ·simp only [go_sem,sevalprocAttr,hbs,hms]
       ·simp only [go_sem,sevalprocAttr]
   ·obtain rfl:c=s.length:=by omega
    have bc:decide ((s.length:Int)<s.length)=false:=by simp
    have hst:=ynd s.length o hb0 hbr.2
    repeat' (first|omega|(try apply yaa);simp only [go_sem,sevalprocAttr,bc,hsl,hst,hol]|apply yae<;>(intro h_;(try simp only [h_]);revert h_)|apply yad|apply yab|apply gspI|apply And.intro|with_reducible intro h_|trivial|simp only [go_sem,la2];omega)
    refine ⟨_,_,_,?_,Wk.sub ?_ ?_,k+1,by omega,rfl,rfl,rfl⟩
    ·omega
    ·simp only [go_sem,sevalprocAttr,hol]
    ·simp only [go_sem,sevalprocAttr,hst,ho1]
  ·obtain rfl:k=s.length:=by omega
   have bk:decide ((s.length:Int)<s.length)=false:=by simp
   repeat' (first|omega|(try apply yaa);simp only [go_sem,sevalprocAttr,bk]|apply yae<;>(intro h_;(try simp only [h_]);revert h_)|apply yad|apply yab|apply gspI|apply And.intro|with_reducible intro h_|trivial|simp only [go_sem,la2];omega)
   all_goals (rw [List.take_of_length_le (by omega),hol];exact LeA.refl _)
end Go.Proofs.YtmdjdekgakidhaaDoor
set_option linter.unusedSimpArgs false
set_option linter.unusedVariables false
namespace Go.Proofs.YtmdjdekgakidhaaDoor
set_option maxRecDepth 100000
def tuO (k:Nat):List Int:=(List.range k).map (Nat.cast:Nat->Int)
theorem y5m: ∀n:Fin 41,n.val=0\/ybb (tuS n.val) (tuX n.val) 0=true:=by decide+kernel
theorem y3v: ∀n:Fin 41,ydd (tuO n.val) n.val=true:=by decide+kernel
theorem y5n: ∀n:Fin 41,wdN (tuX n.val) (tuO n.val) n.val<=20:=by decide+kernel
end Go.Proofs.YtmdjdekgakidhaaDoor
