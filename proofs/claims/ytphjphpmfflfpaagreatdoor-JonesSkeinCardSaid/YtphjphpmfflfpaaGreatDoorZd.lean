/- Layer 12: polynomials: terms. -/
import Derived.Test.YtphjphpmfflfpaaGreatDoorZa
import Derived.Test.YtphjphpmfflfpaaGreatDoorZc
import Derived.Test.YtphjphpmfflfpaaGreatDoorZb
set_option linter.unusedSimpArgs false
set_option linter.unusedVariables false
namespace Go.Proofs.YtphjphpmfflfpaaGreatDoor
open Go Go.RowKit
set_option maxRecDepth 100000
set_option maxHeartbeats 4000000
def dA (p:List (Int×Int)):List AV:=p.flatMap fun t=>[I t.1,I t.2]
abbrev tmA (p:List (Int×Int)):AV:= .ro 2 p.length (.lst (dA p))
abbrev plA (b:Bool) (p:List (Int×Int)):AV:= .agg [.bool b,tmA p]
attribute [go_sem] tmA plA
theorem ybu (p:List (Int×Int)):(dA p).length=2*p.length:=by
 unfold dA;induction p with
 |nil=>rfl
 |cons x p ih=>simp [ih];omega
theorem oF (p:List (Int×Int)) (i:Nat) (h:i<p.length):(dA p).getD (i*2) .any=I (p.getD i (0,0)).1:=by
 unfold dA;induction p generalizing i with
 |nil=>simp at h
 |cons x p ih=>
  cases i with
  |zero=>simp
  |succ i=>
   have:=ih i (by simpa using h)
   simp only [List.flatMap_cons,List.getD_cons_succ];rw [show (i+1)*2=i*2+1+1 by omega];simpa using this
theorem s6 (p:List (Int×Int)) (i:Nat) (h:i<p.length):(dA p).getD (i*2+1) .any=I (p.getD i (0,0)).2:=by
 unfold dA;induction p generalizing i with
 |nil=>simp at h
 |cons x p ih=>
  cases i with
  |zero=>simp
  |succ i=>
   have:=ih i (by simpa using h)
   simp only [List.flatMap_cons,List.getD_cons_succ];rw [show (i+1)*2+1=i*2+1+1+1 by omega];simpa using this
theorem tR (v l:Int) (h0:0<=l) (h1:l<=9000000000000000000):Fn Tryz.prog 94 [I v,I l] (.bool (gP v l)):=by
 unfold gP;refine Fn.intro [.tmp 4] Tryz.func94 rfl rfl (by decide) (by simp [Tryz.ntmps94]) ?_;rw [Tryz.ntmps94]
 repeat' (first|omega|(try apply aj);simp only [go_sem,sevalprocAttr]|apply ag<;>(intro h_;(try simp only [h_]);revert h_)|apply ah|apply ai|apply ae|apply And.intro|with_reducible intro h_|trivial|simp only [go_sem,ak];omega)
 all_goals simp_all
 all_goals omega
theorem Ak {p:List (Int×Int)} {x:AV} (h:x∈dA p): ∃n,x=I n:=by
 unfold dA at h;obtain ⟨t,_,ht⟩:=List.mem_flatMap.1 h;simp only [List.mem_cons,List.not_mem_nil,or_false] at ht;rcases ht with e|e<;>exact ⟨_,e⟩
theorem DF (p:List (Int×Int)):(dA p).all p1=true:=List.all_eq_true.2 fun x hx=>by obtain ⟨n,rfl⟩:=Ak hx;rfl
theorem yav (H:Hp) (p:List (Int×Int)):(dA p).all (s3 H)=true:=List.all_eq_true.2 fun x hx=>by obtain ⟨n,rfl⟩:=Ak hx;rfl
theorem yabl (p:List (Int×Int)):(dA p).all yb2=true:=List.all_eq_true.2 fun x hx=>by obtain ⟨n,rfl⟩:=Ak hx;rfl
theorem y8z (i:Nat) (p:List (Int×Int)):(dA p).map (cutV i)=dA p:=by
 conv=>rhs;rw [←List.map_id (dA p)]
 exact List.map_congr_left fun x hx=>by obtain ⟨n,rfl⟩:=Ak hx;rfl
theorem y46 (H:Hp) (n:Nat) (p:List (Int×Int)):(dA p).map (snap H (n+1))=dA p:=gA (DF p) H n
theorem yh7 (H:Hp) (n:Nat) (p:List (Int×Int)):(∀x∈dA p,cE H (n+1) x)=True:=gw (DF p) H n
theorem ycu (H:Hp) (n:Nat) (p:List (Int×Int)):(dA p).map (aN H (n+1))=dA p:=gd (DF p) H n
theorem yb9 (H:Hp) (n:Nat) (p:List (Int×Int)):(∀x∈dA p,aT H (n+1) x)=True:=gb (DF p) H n
theorem yG (p:List (Int×Int)) (e c:Int):dA p++[AV.int .i64 e,AV.int .i64 c]=dA (p++[(e,c)]):=by simp [dA]
attribute [go_sem] yav yabl y8z y46 yh7 ycu yb9 ybu
theorem y80 (fr:Fr):unl (lft fr)=fr:=by
 induction fr with
 |nil=>rfl
 |cons q r ih=>
  obtain ⟨t,x⟩:=q;simp only [lft,unl];rw [if_pos (by omega),ih,Nat.add_sub_cancel]
theorem y47 (i:Nat) (fr:Fr):fcut i (lft fr)=lft (fcut i fr):=by
 induction fr with
 |nil=>rfl
 |cons q r ih=>obtain ⟨t,x⟩:=q;simp only [lft,fcut,ih]
attribute [go_sem] y80 y47
theorem AN {p:List (Int×Int)} (h:qi p) {i:Nat} (hi:i<p.length): -1125899906842624<=(p.getD i (0,0)).2/\(p.getD i (0,0)).2<=1125899906842624:=h _ (by simp [hi])
set_option maxHeartbeats 8000000
def Rp:Tr:= .node [(0, .node [(1, .node [(2, .node [(3, .node [(4, .node [(5, .node [(6, .node [(7, .done)])])])])]),(3, .node [(2, .node [(4, .node [(5, .node [(6, .node [(7, .done)])])])])])]),(3, .node [(1, .node [(2, .node [(4, .node [(5, .node [(6, .node [(7, .done)])])])])])])]),(1, .node [(0, .node [(2, .node [(3, .node [(4, .node [(5, .node [(6, .node [(7, .done)])])])])]),(3, .node [(2, .node [(4, .node [(5, .node [(6, .node [(7, .done)])])])])])]),(2, .node [(0, .node [(3, .node [(4, .node [(5, .node [(6, .node [(7, .done)])])])])]),(3, .node [(0, .node [(4, .node [(5, .node [(6, .node [(7, .done)])])])]),(4, .node [(0, .node [(5, .node [(6, .node [(7, .done)])])]),(5, .node [(0, .node [(6, .node [(7, .done)])])])])])]),(3, .node [(0, .node [(2, .node [(4, .node [(5, .node [(6, .node [(7, .done)])])])])]),(2, .node [(0, .node [(4, .node [(5, .node [(6, .node [(7, .done)])])])]),(4, .node [(0, .node [(5, .node [(6, .node [(7, .done)])])]),(5, .node [(0, .node [(6, .node [(7, .done)])])])])])])]),(3, .node [(0, .node [(1, .node [(2, .node [(4, .node [(5, .node [(6, .node [(7, .done)])])])])])]),(1, .node [(0, .node [(2, .node [(4, .node [(5, .node [(6, .node [(7, .done)])])])])]),(2, .node [(0, .node [(4, .node [(5, .node [(6, .node [(7, .done)])])])]),(4, .node [(0, .node [(5, .node [(6, .node [(7, .done)])])]),(5, .node [(0, .node [(6, .node [(7, .done)])])])])])])])]
def FR (k h:Int) (g:Int->Option (Int×Int)):Int->Option (Int×Int):=if h % 2=0 then updP g (h/4) k ((g (h/4)).getD (0,0)).2 else updP g (h/4) ((g (h/4)).getD (0,0)).1 k
def atN (k:Int) (l:List Int) (g:Int->Option (Int×Int)):Nat->Int->Option (Int×Int)
 |0=>g
 |j+1=>FR k (l.getD j 0) (atN k l g j)
def v7 (ls:List (List Int)):Nat->Int->Option (Int×Int)
 |0=>fun _=>none
 |k+1=>atN k (ls.getD k []) (v7 ls k) (ls.getD k []).length
theorem T8 (s m:List Int) (L:Int) (hv:dm s m L=true):qg Tryz.prog 148 [dgA s m L] (.mp 1) [(1, .fmap 160 (.pairs (v7 (j8 s m) (j8 s m).length)))]:=by
 have hS:=Px s m L;unfold AF at hS;rw [hv,if_pos rfl] at hS;have v1:=jC hv;have uO:=v1.s64;have hl:=v1.len;have dq:=ID s m;have iB:=fun l (hl:l∈j8 s m)=>TR v1.dd hl;refine qg.intro [.tmp 2] Tryz.func148 rfl rfl (by decide) (by simp [Tryz.ntmps148]) ?_;rw [Tryz.ntmps148]
 repeat' (first|omega|(try apply aj);simp only [go_sem,sevalprocAttr]|apply ag<;>(intro h_;(try simp only [h_]);revert h_)|apply ah|apply ai|apply ae|apply And.intro|with_reducible intro h_|trivial|simp only [go_sem,ak];omega)
 refine dM.makeMap (n:=(s.length:Int)) (kt:=3) (et:=162) rfl rfl (by simp only [go_sem,sevalprocAttr]) rfl ?_
 repeat' (first|omega|(try apply aj);simp only [go_sem,sevalprocAttr]|apply ag<;>(intro h_;(try simp only [h_]);revert h_)|apply ah|apply ai|apply ae|apply And.intro|with_reducible intro h_|trivial|simp only [go_sem,ak];omega)
 refine ⟨az.fn rfl hS ?_⟩
 repeat' (first|omega|(try apply aj);simp only [go_sem,sevalprocAttr]|apply ag<;>(intro h_;(try simp only [h_]);revert h_)|apply ah|apply ai|apply ae|apply And.intro|with_reducible intro h_|trivial|simp only [go_sem,ak];omega)
 generalize j8 s m=ls at*;refine bN.intro (fun n fr H=> ∃i:Nat,i<=ls.length/\n=ls.length-i/\fr=[(16,I i),(15,I ls.length),(14,uc ls),(3, .mp 1),(1, .ptr 0 0)]/\H=[(1, .fmap 160 (.pairs (v7 ls i))),(0, .cells 24 (.lst [roI s,roI m,I L]))]) ?_ ?_
 ·refine ⟨_,_,_,Wk.sub ?_ ?_,0,by omega,rfl,rfl,rfl⟩
  ·simp only [go_sem,sevalprocAttr]
  ·(simp only [go_sem,sevalprocAttr,v7])<;>rfl
 rintro n fr H ⟨i,hi,rfl,rfl,rfl⟩;by_cases fS:i<ls.length
 ·have bi:decide ((i:Int)<ls.length)=true:=by simpa using fS
  have hg:=V2 ls i fS;have X7:=iB (ls.getD i []) (by simp [fS]);have eA:v7 ls (i+1)=atN i (ls.getD i []) (v7 ls i) (ls.getD i []).length:=rfl;generalize ls.getD i []=l at*;generalize v7 ls i=g0 at*
  repeat' (first|omega|(try apply aj);simp only [go_sem,sevalprocAttr,hg,bi]|apply ag<;>(intro h_;(try simp only [h_]);revert h_)|apply ah|apply ai|apply ae|apply And.intro|with_reducible intro h_|trivial|simp only [go_sem,ak];omega)
  refine bN.intro (fun n fr H=> ∃k:Nat,k<=l.length/\n=l.length-k/\fr=[(23,I k),(22,I l.length),(21,roI l),(4,I i),(16,I i),(15,I ls.length),(14,uc ls),(3, .mp 1),(1, .ptr 0 0)]/\H=[(1, .fmap 160 (.pairs (atN i l g0 k))),(0, .cells 24 (.lst [roI s,roI m,I L]))]) ?_ ?_
  ·refine ⟨_,_,_,Wk.sub ?_ ?_,0,by omega,rfl,rfl,rfl⟩
   ·simp only [go_sem,sevalprocAttr]
   ·(simp only [go_sem,sevalprocAttr,atN])<;>rfl
  rintro n fr H ⟨k,hk,rfl,rfl,rfl⟩;by_cases bJ:k<l.length
  ·have bk:decide ((k:Int)<l.length)=true:=by simpa using bJ
   have hx:=X7.2 (l.getD k 0) (by simp [bJ]);have e1:(l.getD k 0).tdiv 4=l.getD k 0/4:=sW hx.1;have e2:(l.getD k 0).tmod 2=l.getD k 0 % 2:=Nf hx.1;have eN:atN i l g0 (k+1)=FR i (l.getD k 0) (atN i l g0 k):=rfl;obtain ⟨h,hh⟩: ∃h,l.getD k 0=h:=⟨_,rfl⟩;rw [hh] at hx e1 e2 eN;generalize atN i l g0 k=g at*;by_cases hp:h % 2=0
   ·have e3:FR i h g=updP g (h/4) i ((g (h/4)).getD (0,0)).2:=if_pos hp
    repeat' (first|omega|(try apply aj);simp only [go_sem,sevalprocAttr,bk,hh,e1,e2,hp]|apply ag<;>(intro h_;(try simp only [h_]);revert h_)|apply ah|apply ai|apply ae|apply And.intro|with_reducible intro h_|trivial|simp only [go_sem,ak];omega)
    refine ⟨_,_,_,?_,Wk.sub ?_ ?_,k+1,by omega,rfl,rfl,rfl⟩
    ·omega
    ·simp only [go_sem,sevalprocAttr]
    ·(simp only [go_sem,sevalprocAttr,eN,e3])<;>rfl
   ·have aD:h % 2=1:=by omega
    have e3:FR i h g=updP g (h/4) ((g (h/4)).getD (0,0)).1 i:=if_neg hp
    repeat' (first|omega|(try apply aj);simp only [go_sem,sevalprocAttr,bk,hh,e1,e2,aD]|apply ag<;>(intro h_;(try simp only [h_]);revert h_)|apply ah|apply ai|apply ae|apply And.intro|with_reducible intro h_|trivial|simp only [go_sem,ak];omega)
    refine ⟨_,_,_,?_,Wk.sub ?_ ?_,k+1,by omega,rfl,rfl,rfl⟩
    ·omega
    ·simp only [go_sem,sevalprocAttr]
    ·(simp only [go_sem,sevalprocAttr,eN,e3])<;>rfl
  ·obtain rfl:k=l.length:=by omega
   have bk:decide (((l.length:Nat):Int)<l.length)=false:=by simp
   repeat' (first|omega|(try apply aj);simp only [go_sem,sevalprocAttr,bk]|apply ag<;>(intro h_;(try simp only [h_]);revert h_)|apply ah|apply ai|apply ae|apply And.intro|with_reducible intro h_|trivial|simp only [go_sem,ak];omega)
   refine ⟨_,_,_,?_,Wk.sub ?_ ?_,i+1,by omega,rfl,rfl,rfl⟩
   ·omega
   ·simp only [go_sem,sevalprocAttr]
   ·(simp only [go_sem,sevalprocAttr,eA])<;>rfl
 ·obtain rfl:i=ls.length:=by omega
  have bi:decide (((ls.length:Nat):Int)<ls.length)=false:=by simp
  repeat' (first|omega|(try apply aj);simp only [go_sem,sevalprocAttr,bi]|apply ag<;>(intro h_;(try simp only [h_]);revert h_)|apply ah|apply ai|apply ae|apply And.intro|with_reducible intro h_|trivial|simp only [go_sem,ak];omega)
theorem S7 (a b:Int):Fn Tryz.prog 93 [I a,I b] (.bool true):=by
 refine Fn.intro [.tmp 4] Tryz.func93 rfl rfl (by decide) (by simp [Tryz.ntmps93]) ?_;rw [Tryz.ntmps93]
 repeat' (first|omega|(try apply aj);simp only [go_sem,sevalprocAttr]|apply ag<;>(intro h_;(try simp only [h_]);revert h_)|apply ah|apply ai|apply ae|apply And.intro|with_reducible intro h_|trivial|simp only [go_sem,ak];omega)
def b8 (s:List Int):Nat->Int
 |0=>0
 |n+1=>b8 s n+s.getD n 0
abbrev Ka (s m:List Int) (L:Int) (g:Int->Option (Int×Int)) (f:AV) (t:Int):Hp:=[(5, .cells 3 (.lst [I t])),(4, .cells 160 (.lst [.mp 3])),(3, .fmap 160 (.pairs g)),(1, .cells 113 (.lst [f])),(0, .cells 24 (.lst [roI s,roI m,I L]))]
theorem Xq (s m:List Int) (L:Int) (g:Int->Option (Int×Int)) (t:Int) (c:Nat) (hc:c<s.length) (ht: -1000<=t/\t<=1000) (hs:s.getD c 0=1\/s.getD c 0= -1) {fr:Fr} {K:AV->Fr->Hp->Prop}
  (hK:K (.tup []) fr ((6, .cells 162 (.lst [I ((g c).getD (0,0)).1,I ((g c).getD (0,0)).2]))::Ka s m L g (.fn 93 []) (t+s.getD c 0))):
  gu Tryz.prog 149 [I c, .ptr 4 0, .ptr 1 0, .ptr 5 0, .ptr 0 0] fr (Ka s m L g (.fn 93 []) t) K:=by
 have hW:=S7 ((g c).getD (0,0)).1 ((g c).getD (0,0)).2;obtain ⟨x,hx⟩: ∃x,s.getD c 0=x:=⟨_,rfl⟩;rw [hx] at hs hK;refine gu.intro [] Tryz.func149 rfl rfl (by decide) (by simp [Tryz.ntmps149]) ?_;rw [Tryz.ntmps149]
 repeat' (first|omega|(try apply aj);simp only [go_sem,sevalprocAttr]|apply ag<;>(intro h_;(try simp only [h_]);revert h_)|apply ah|apply ai|apply ae|apply And.intro|with_reducible intro h_|trivial|simp only [go_sem,ak];omega)
 refine ⟨az.fn rfl hW ?_⟩
 repeat' (first|omega|(first|apply aj|(refine an.intro (id:=2) [[17,18,19,20,21],[16,19],[16,19],[16,17,18],[16],[16],[],[]] [[],[0],[0],[0,1,2],[0],[0],[],[]] (by decide+kernel) mixed ?_)|(refine an.av (id:=2) (Rp) (by decide+kernel) mixed ?_)|skip);simp only [go_sem,sevalprocAttr,hx,↓reduceIte,reduceCtorEq,Rp]|apply ag<;>(intro h_;(try simp only [h_]);revert h_)|apply ah|apply ai|apply ae|apply And.intro|with_reducible intro h_|trivial|simp only [go_sem,ak];omega)
 all_goals exact hK
theorem Vg (s m:List Int) (L:Int) (hv:dm s m L=true):Fn Tryz.prog 92 [dgA s m L, .fn 93 []] (I (b8 s s.length)):=by
 have hA:=T8 s m L hv;have v1:=jC hv;have uO:=v1.s64;have hb: ∀c,c<=s.length-> -(c:Int)<=b8 s c/\b8 s c<=c:=fun c=>by
  induction c with
  |zero=>intro _;simp [b8]
  |succ c ih=>
   intro hc
   have:=ih (by omega)
   have:=v1.sg c (by omega)
   simp only [b8];omega
 generalize v7 (j8 s m) (j8 s m).length=g at*;refine Fn.intro [.tmp 4] Tryz.func92 rfl rfl (by decide) (by simp [Tryz.ntmps92]) ?_;rw [Tryz.ntmps92]
 repeat' (first|omega|(try apply aj);simp only [go_sem,sevalprocAttr]|apply ag<;>(intro h_;(try simp only [h_]);revert h_)|apply ah|apply ai|apply ae|apply And.intro|with_reducible intro h_|trivial|simp only [go_sem,ak];omega)
 refine ⟨az.SM rfl hA ?_⟩
 repeat' (first|omega|(try apply aj);simp only [go_sem,sevalprocAttr]|apply ag<;>(intro h_;(try simp only [h_]);revert h_)|apply ah|apply ai|apply ae|apply And.intro|with_reducible intro h_|trivial|simp only [go_sem,ak];omega)
 refine bN.intro (fun n fr H=> ∃c:Nat,c<=s.length/\n=s.length-c/\fr=[(15,I c),(14,I s.length),(7, .fn 149 [.ptr 4 0, .ptr 1 0, .ptr 5 0, .ptr 0 0]),(6, .ptr 5 0)]/\H=Ka s m L g (.fn 93 []) (b8 s c)) ?_ ?_
 ·refine ⟨_,_,_,Wk.sub ?_ ?_,0,by omega,rfl,rfl,rfl⟩
  ·simp only [go_sem,sevalprocAttr]
  ·(simp only [go_sem,sevalprocAttr,b8])<;>rfl
 rintro n fr H ⟨c,hc,rfl,rfl,rfl⟩;have hbc:=hb c hc;by_cases bC:c<s.length
 ·have bc:decide ((c:Int)<s.length)=true:=by simpa using bC
  repeat' (first|omega|(try apply aj);simp only [go_sem,sevalprocAttr,bc]|apply ag<;>(intro h_;(try simp only [h_]);revert h_)|apply ah|apply ai|apply ae|apply And.intro|with_reducible intro h_|trivial|simp only [go_sem,ak];omega)
  refine ⟨az.inline (Xq s m L g (b8 s c) c bC (by omega) (v1.sg c bC) ?_)⟩
  repeat' (first|omega|(try apply aj);simp only [go_sem,sevalprocAttr]|apply ag<;>(intro h_;(try simp only [h_]);revert h_)|apply ah|apply ai|apply ae|apply And.intro|with_reducible intro h_|trivial|simp only [go_sem,ak];omega)
  refine ⟨_,_,_,?_,Wk.sub ?_ ?_,c+1,by omega,rfl,rfl,rfl⟩
  ·omega
  ·simp only [go_sem,sevalprocAttr]
  ·(simp only [go_sem,sevalprocAttr,b8])<;>rfl
 ·obtain rfl:c=s.length:=by omega
  have bc:decide (((s.length:Nat):Int)<s.length)=false:=by simp
  repeat' (first|omega|(try apply aj);simp only [go_sem,sevalprocAttr,bc]|apply ag<;>(intro h_;(try simp only [h_]);revert h_)|apply ah|apply ai|apply ae|apply And.intro|with_reducible intro h_|trivial|simp only [go_sem,ak];omega)
theorem Xp (s m:List Int) (L:Int) (hv:dm s m L=true):Fn Tryz.prog 37 [dgA s m L] (I (b8 s s.length)):=by
 have hV:=tP s m L;rw [hv] at hV;have hS:=Vg s m L hv;refine Fn.intro [.tmp 2] Tryz.func37 rfl rfl (by decide) (by simp [Tryz.ntmps37]) ?_;rw [Tryz.ntmps37]
 repeat' (first|omega|(try apply aj);simp only [go_sem,sevalprocAttr]|apply ag<;>(intro h_;(try simp only [h_]);revert h_)|apply ah|apply ai|apply ae|apply And.intro|with_reducible intro h_|trivial|simp only [go_sem,ak];omega)
 refine ⟨az.fn rfl hV ?_⟩
 repeat' (first|omega|(try apply aj);simp only [go_sem,sevalprocAttr]|apply ag<;>(intro h_;(try simp only [h_]);revert h_)|apply ah|apply ai|apply ae|apply And.intro|with_reducible intro h_|trivial|simp only [go_sem,ak];omega)
 refine ⟨az.fn rfl hS ?_⟩
 repeat' (first|omega|(try apply aj);simp only [go_sem,sevalprocAttr]|apply ag<;>(intro h_;(try simp only [h_]);revert h_)|apply ah|apply ai|apply ae|apply And.intro|with_reducible intro h_|trivial|simp only [go_sem,ak];omega)
def DE:List (List Nat):=[[17,18,19,20,21,22],[17,18,19,20,21,22],[15,16,18,19],[15,16,17],[15,16,17],[15,16],[15,16],[15,16],[],[]]
theorem Wk.kB (ids:List Nat) {fr fr':Fr} {H H':Hp} (h1:yeb (hsel H ids) fr) (h2:ydl (hsel H ids) H) (c7:frzF (hsel H ids) fr=fr') (hH:cr (hsel H ids) H=H'):Wk fr H fr' H':=by
 subst c7;subst hH;exact fun _ _ _ _ _ ρ _ hs=>⟨ρ,hs.freeze (fun i o=>AQ i o) h1 h2⟩
theorem Pq: ∀(ts:List Int) (r:ByteArray),(ts.foldl (fun r n=>r.push (UInt8.ofNat n.toNat)) r).data.toList=r.data.toList++ts.map fun t=>UInt8.ofNat t.toNat
 |[],r=>by simp
 |t::ts,r=>by
  rw [List.foldl_cons,Pq ts];simp [ByteArray.push]
def pS (T:List Nat):ByteArray:=nU (T.map fun (i:Nat)=>(97:Int)+i)
theorem GV (T:List Nat):(pS T).data.toList=T.map fun i=>UInt8.ofNat (97+i):=by
 unfold pS nU;rw [Pq];simp only [ByteArray.data_empty,Array.toList_empty,List.nil_append,List.map_map];exact List.map_congr_left fun i _=>by
  simp only [Function.comp];congr 1
theorem Vf (T:List Nat):(pS T).size=T.length:=by
 have:=congrArg List.length (GV T)
 simpa using this
theorem Bl {T:List Nat} {x:Nat} (h:x<T.length) (hb:T.getD x 0<100):(((pS T).data.toList.getD x 0).toNat:Int)=97+(T.getD x 0:Nat):=by
 rw [GV];simp only [List.getD_eq_getElem?_getD,List.getElem?_map,List.getElem?_eq_getElem h,Option.map_some,Option.getD_some] at hb⊢;rw [UInt8.toNat_ofNat'];omega
def j6 (aS:Nat) (T:List Nat) (J:List Int) (x:Nat):Int:=if x<aS then (T.getD x 0:Nat) else aS+J.getD (x-aS) 0
abbrev y6m (aS:Nat) (glue index ends:List Int):Cs:= .lst [I aS,roI glue,roI index,roI ends]
attribute [go_sem] y6m
theorem Jt (aS x:Nat) (glue index ends:List Int) (T:List Nat) (J:List Int) (hT:T.length=aS) (hb: ∀i∈T,i<100) (hJ:J.length=4) (LQ: ∀i,0<=J.getD i 0/\J.getD i 0<=3) (hx:x<aS+4) (hc:aS<=1000):
  Fn Tryz.prog 193 [I x, .rp (y6m aS glue index ends) 0, .rp (.lst [.str (pS T)]) 0, .rp (.lst (J.map (AV.int .i64))) 0] (I (j6 aS T J x)):=by
 by_cases h:x<aS
 ·have b0:decide ((x:Int)<aS)=true:=by simp;omega
  have YJ:T.getD x 0<100:=by
   rw [List.getD_eq_getElem?_getD,List.getElem?_eq_getElem (show x<T.length by omega)];exact hb _ (List.getElem_mem _)
  have e1:=Bl (T:=T) (x:=x) (by omega) YJ;have e2:=Vf T;unfold j6;rw [if_pos h];have w1:IntKind.u8.wrap (97+((T.getD x 0:Nat):Int)-97)=((T.getD x 0:Nat):Int):=by rw [IntWalk.u8_in _ (by omega)];omega
  have w2:IntKind.i64.wrap ((T.getD x 0:Nat):Int)=((T.getD x 0:Nat):Int):=IntWalk.i64_in _ (by omega);refine Fn.intro [.tmp 5] Tryz.func193 rfl rfl (by decide) (by simp [Tryz.ntmps193]) ?_;rw [Tryz.ntmps193]
  repeat' (first|omega|(first|apply aj|(refine an.intro (id:=3) DE [[],[],[0,1],[0,1,2],[0,1,2],[0,1],[0,1],[0,1],[],[]] (by decide+kernel) mixed ?_)|skip);simp only [go_sem,sevalprocAttr,b0,e1,e2,w1,w2,Int.toNat_natCast,↓reduceIte,reduceCtorEq,DE]|apply ag<;>(intro h_;(try simp only [h_]);revert h_)|apply ah|apply ai|apply ae|apply And.intro|with_reducible intro h_|trivial|simp only [go_sem,ak];omega)
 ·have b0:decide ((x:Int)<aS)=false:=by simp;omega
  unfold j6;rw [if_neg h];have e1:((x:Int)-aS).toNat=x-aS:=by omega
  have e2:(J.map (AV.int .i64)).getD (x-aS) .any=I (J.getD (x-aS) 0):=by
   have:x-aS<J.length:=by omega
   simp [List.getD_eq_getElem?_getD,this]
  have hr:=LQ (x-aS);refine Fn.intro [.tmp 5] Tryz.func193 rfl rfl (by decide) (by simp [Tryz.ntmps193]) ?_;rw [Tryz.ntmps193]
  repeat' (first|omega|(first|apply aj|(refine an.intro (id:=3) DE [[],[],[0,1],[0,1,2],[0,1,2],[0,1],[0,1],[0,1],[],[]] (by decide+kernel) mixed ?_)|skip);simp only [go_sem,sevalprocAttr,b0,e1,e2,Int.toNat_natCast,List.length_map,hJ,↓reduceIte,reduceCtorEq,DE]|apply ag<;>(intro h_;(try simp only [h_]);revert h_)|apply ah|apply ai|apply ae|apply And.intro|with_reducible intro h_|trivial|simp only [go_sem,ak];omega)
def cB (cs:List Int) (k:Nat):List Int:=(List.range (cs.length+2)).map fun i=>(if i<k then-(cs.getD i 0) else 0)-(if 2<=i/\i-2<k then cs.getD (i-2) 0 else 0)
theorem wM (cs:List Int) (k:Nat):(cB cs k).length=cs.length+2:=by simp [cB]
theorem Js (cs:List Int):cB cs 0=List.replicate (cs.length+2) 0:=by
 apply List.ext_getElem?;intro i;by_cases h:i<cs.length+2<;>simp [cB,h]
theorem yt (cs:List Int) (k i:Nat) (h:i<cs.length+2):(cB cs k).getD i 0=(if i<k then-(cs.getD i 0) else 0)-(if 2<=i/\i-2<k then cs.getD (i-2) 0 else 0):=by
 simp [cB,List.getD_eq_getElem?_getD,h]
theorem Xo (cs:List Int) (k:Nat) (hk:k<cs.length):((cB cs k).set k ((cB cs k).getD k 0-cs.getD k 0)).set (k+2) ((cB cs k).getD (k+2) 0-cs.getD k 0)=cB cs (k+1):=by
 rw [yt _ _ _ (by omega),yt _ _ _ (by omega)];apply List.ext_getElem?;intro i;rw [List.getElem?_set,List.getElem?_set];simp only [List.length_set,wM];by_cases h2:k+2=i
 ·subst h2;rw [if_pos rfl,if_pos (by omega)];simp [cB,show k+2<cs.length+2 by omega];omega
 ·rw [if_neg h2];by_cases h1:k=i
  ·subst h1;rw [if_pos rfl,if_pos (by omega)];simp only [cB,List.getElem?_map,List.getElem?_range (show k<cs.length+2 by omega),Option.map_some];congr 1;by_cases h3:2<=k/\k-2<k
   ·rw [if_neg (by omega),if_pos h3,if_pos (by omega),if_pos (by omega)];omega
   ·rw [if_neg (by omega),if_neg h3,if_pos (by omega),if_neg (by omega)];omega
  ·rw [if_neg h1];by_cases hi:i<cs.length+2
   ·simp only [cB,List.getElem?_map,List.getElem?_range hi,Option.map_some];congr 1;have e1:(i<k)=(i<k+1):=propext ⟨fun h=>by omega,fun h=>by omega⟩;have e2:(2<=i/\i-2<k)=(2<=i/\i-2<k+1):=propext ⟨fun h=>⟨h.1,by omega⟩,fun h=>⟨h.1,by omega⟩⟩;simp only [e1,e2]
   ·rw [List.getElem?_eq_none (by rw [wM];omega),List.getElem?_eq_none (by rw [wM];omega)]
abbrev tpA (lo:Int) (cs:List Int):AV:= .agg [I lo,roI cs]
attribute [go_sem] tpA
theorem OS (lo:Int) (cs:List Int) (kx: -100000<=lo/\lo<=100000) (hl:cs.length<=100000) (hc: ∀i,-1152921504606846976<=cs.getD i 0/\cs.getD i 0<=1152921504606846976):Fn Tryz.prog 177 [tpA lo cs] (tpA (lo-2) (cB cs cs.length)):=by
 refine Fn.au [.cell 2 151] Tryz.func177 rfl rfl (by decide) (by simp [Tryz.ntmps177]) ?_;rw [Tryz.ntmps177]
 repeat' (first|omega|(try apply aj);simp only [go_sem,sevalprocAttr]|apply ag<;>(intro h_;(try simp only [h_]);revert h_)|apply ah|apply ai|apply ae|apply And.intro|with_reducible intro h_|trivial|simp only [go_sem,ak];omega)
 refine bN.intro (fun n fr H=> ∃k:Nat,k<=cs.length/\n=cs.length-k/\fr=[(14,I k),(13,I cs.length),(12,roI cs),(3, .sl 1 2 0 (cs.length+2)),(2, .ptr 1 0),(1, .ptr 0 0)]/\H=[(2, .cells 3 (.ints (cB cs k))),(1, .cells 151 (.lst [I 0, .nils])),(0, .cells 151 (.lst [I lo,roI cs]))]) ?_ ?_
 ·refine ⟨_,_,_,?_,0,by omega,rfl,rfl,rfl⟩;rw [Js];have e0:((cs.length:Int)+2).toNat=cs.length+2:=by omega
  refine Wk.sub ?_ ?_<;>(simp only [go_sem,sevalprocAttr,e0])
 rintro n fr H ⟨k,hk,rfl,rfl,rfl⟩;have tl:=wM cs k;by_cases bJ:k<cs.length
 ·have bk:decide ((k:Int)<cs.length)=true:=by simp;omega
  have bo:=Xo cs k bJ;have a1:=yt cs k k (by omega);have a2:=yt cs k (k+2) (by omega);rw [if_neg (by omega)] at a1;rw [if_neg (by omega),if_neg (by omega)] at a2;have c0:=hc k;have c2:=hc (k-2);have h1: -1152921504606846976<=(cB cs k).getD k 0/\(cB cs k).getD k 0<=1152921504606846976:=by rw [a1];split<;>omega
  have h2:(cB cs k).getD (k+2) 0=0:=by rw [a2];rfl
  have e1:((k:Int)+2).toNat=k+2:=by omega
  have e2:((cB cs k).set k ((cB cs k).getD k 0-cs.getD k 0)).getD (k+2) 0=(cB cs k).getD (k+2) 0:=by simp [List.getD_eq_getElem?_getD,List.getElem?_set,show¬k=k+2 by omega]
  generalize cB cs k=R at*
  repeat' (first|omega|(try apply aj);simp only [go_sem,sevalprocAttr,bk,e1,e2,tl,bo,List.length_set]|apply ag<;>(intro h_;(try simp only [h_]);revert h_)|apply ah|apply ai|apply ae|apply And.intro|with_reducible intro h_|trivial|simp only [go_sem,ak];omega)
  refine ⟨_,_,_,?_,?_,⟨k+1,by omega,rfl,rfl,rfl⟩⟩
  ·omega
  ·refine Wk.sub ?_ ?_<;>simp only [go_sem,sevalprocAttr]
   all_goals simp_all
 ·obtain rfl:k=cs.length:=by omega
  have bk:decide ((cs.length:Int)<cs.length)=false:=by simp
  repeat' (first|omega|(try apply aj);simp only [go_sem,sevalprocAttr,bk,tl]|apply ag<;>(intro h_;(try simp only [h_]);revert h_)|apply ah|apply ai|apply ae|apply And.intro|with_reducible intro h_|trivial|simp only [go_sem,ak];omega)
  all_goals (rw [List.take_of_length_le (by omega)];exact aM.of (by simp [tl]))
end Go.Proofs.YtphjphpmfflfpaaGreatDoor
